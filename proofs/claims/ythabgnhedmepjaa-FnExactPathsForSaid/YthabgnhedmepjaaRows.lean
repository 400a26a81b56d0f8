/-
  No cell of these rows narrows 'for every input' (looked for: loops, veiled, ifaces, maps, wideKeys, modest, calm, conditions, laid).
  DERIVED. THE GIVEN ROWS OF THIS SEAT. 8 by the template 'for every input the law returns true; each argument reads behind the call as it read before'; 0 by the template 'total and deterministic' (their statements: YthabgnhedmepjaaTotals.lean).
  GIVEN WITH THE SEED: the statements are not yours to turn. If you find one false, say at which input.
  Laid BY PROGRAM, IN A SANDBOX (cutbox-rows.mjs): the forced cells as the released guide's own fill.sh prints them over the translation b445eccba62f6966… (all of the seat's roots in one cut). By AI agents, Wed Nov 11 2026. No macro, syntax, notation, axiom, sorry.
-/
import Derived.Test.YthabgnhedmepjaaChecked
import GoSem.Claim
import GoSem.ClaimJoined
import GoSem.ClaimMapViews
import Derived.JoinedTies
import Derived.KernelRfl
namespace Go.Proofs.Ythabgnhedmepjaa
/- THE CELL 'sum', in the pinned program and in every row, IS THE sha256 OF THE DUMP (.gsa) THAT YthabgnhedmepjaaProg.lean LOADS. Nothing in Lean hashes anything: it is a label: what it is worth is what the hold of that sum in a sandbox is worth. -/
noncomputable def Try.pinned : Pinned := { name := "ythabgnhedmepjaa", sum := "b445eccba62f6966ca6779ad4c1b9e09e0d16e496b9ed439a8b114649f9be125", checked := Try.checked }
namespace Rows
def none {H : Type} : Left H := { results := [], args := [] }

/-- 'laws.FnExactNumbersFresh': WHATEVER THE INPUT: true; the input reads as it did. -/
def fnExactNumbersFreshSpec : ChangeSpec := { name := "fnExactNumbersFresh", fn := fun _ => fun
  | [d1, d2] => { results := [.lit (.bool true)], args := [d1, d2] }
  | _ => none }
def fnExactNumbersFreshRow : OpenClaim := { program := "ythabgnhedmepjaa", sum := "b445eccba62f6966ca6779ad4c1b9e09e0d16e496b9ed439a8b114649f9be125", func := "loop.example/obliviousqueries/laws.FnExactNumbersFresh", spec := "fnExactNumbersFresh", apart := false }
def FnExactNumbersFreshSaid : Prop := fnExactNumbersFreshRow.holds Try.pinned (OpenSpec.ofChange fnExactNumbersFreshSpec)

/-- ITS FALSE NEIGHBOUR: 'it returns false'. Refute it at one input. -/
def fnExactNumbersFreshWrong : ChangeSpec := { name := "fnExactNumbersFresh", fn := fun _ => fun
  | [d1, d2] => { results := [.lit (.bool false)], args := [d1, d2] }
  | _ => none }
def FnExactNumbersFreshWrongFalsely : Prop := fnExactNumbersFreshRow.holds Try.pinned (OpenSpec.ofChange fnExactNumbersFreshWrong)

/-- 'laws.FnExactPairTrace': WHATEVER THE INPUT: true; the input reads as it did. -/
def fnExactPairTraceSpec : ChangeSpec := { name := "fnExactPairTrace", fn := fun _ => fun
  | [d1, d2] => { results := [.lit (.bool true)], args := [d1, d2] }
  | _ => none }
def fnExactPairTraceRow : OpenClaim := { program := "ythabgnhedmepjaa", sum := "b445eccba62f6966ca6779ad4c1b9e09e0d16e496b9ed439a8b114649f9be125", func := "loop.example/obliviousqueries/laws.FnExactPairTrace", spec := "fnExactPairTrace", apart := false }
def FnExactPairTraceSaid : Prop := fnExactPairTraceRow.holds Try.pinned (OpenSpec.ofChange fnExactPairTraceSpec)

/-- ITS FALSE NEIGHBOUR: 'it returns false'. Refute it at one input. -/
def fnExactPairTraceWrong : ChangeSpec := { name := "fnExactPairTrace", fn := fun _ => fun
  | [d1, d2] => { results := [.lit (.bool false)], args := [d1, d2] }
  | _ => none }
def FnExactPairTraceWrongFalsely : Prop := fnExactPairTraceRow.holds Try.pinned (OpenSpec.ofChange fnExactPairTraceWrong)

/-- 'laws.FnExactSealRow': WHATEVER THE INPUT: true; the input reads as it did. -/
def fnExactSealRowSpec : ChangeSpec := { name := "fnExactSealRow", fn := fun _ => fun
  | [d1, d2, d3, d4] => { results := [.lit (.bool true)], args := [d1, d2, d3, d4] }
  | _ => none }
def fnExactSealRowRow : OpenClaim := { program := "ythabgnhedmepjaa", sum := "b445eccba62f6966ca6779ad4c1b9e09e0d16e496b9ed439a8b114649f9be125", func := "loop.example/obliviousqueries/laws.FnExactSealRow", spec := "fnExactSealRow", unfollowed := true, recurses := true, apart := false }
def FnExactSealRowSaid : Prop := fnExactSealRowRow.holds Try.pinned (OpenSpec.ofChange fnExactSealRowSpec)

/-- ITS FALSE NEIGHBOUR: 'it returns false'. Refute it at one input. -/
def fnExactSealRowWrong : ChangeSpec := { name := "fnExactSealRow", fn := fun _ => fun
  | [d1, d2, d3, d4] => { results := [.lit (.bool false)], args := [d1, d2, d3, d4] }
  | _ => none }
def FnExactSealRowWrongFalsely : Prop := fnExactSealRowRow.holds Try.pinned (OpenSpec.ofChange fnExactSealRowWrong)

/-- 'laws.FnExactMemoryValid': WHATEVER THE INPUT: true; the input reads as it did. -/
def fnExactMemoryValidSpec : ChangeSpec := { name := "fnExactMemoryValid", fn := fun _ => fun
  | [d] => { results := [.lit (.bool true)], args := [d] }
  | _ => none }
def fnExactMemoryValidRow : OpenClaim := { program := "ythabgnhedmepjaa", sum := "b445eccba62f6966ca6779ad4c1b9e09e0d16e496b9ed439a8b114649f9be125", func := "loop.example/obliviousqueries/laws.FnExactMemoryValid", spec := "fnExactMemoryValid", unfollowed := true, recurses := true, apart := false }
def FnExactMemoryValidSaid : Prop := fnExactMemoryValidRow.holds Try.pinned (OpenSpec.ofChange fnExactMemoryValidSpec)

/-- ITS FALSE NEIGHBOUR: 'it returns false'. Refute it at one input. -/
def fnExactMemoryValidWrong : ChangeSpec := { name := "fnExactMemoryValid", fn := fun _ => fun
  | [d] => { results := [.lit (.bool false)], args := [d] }
  | _ => none }
def FnExactMemoryValidWrongFalsely : Prop := fnExactMemoryValidRow.holds Try.pinned (OpenSpec.ofChange fnExactMemoryValidWrong)

/-- 'laws.FnExactOpenRow': WHATEVER THE INPUT: true; the input reads as it did. -/
def fnExactOpenRowSpec : ChangeSpec := { name := "fnExactOpenRow", fn := fun _ => fun
  | [d1, d2] => { results := [.lit (.bool true)], args := [d1, d2] }
  | _ => none }
def fnExactOpenRowRow : OpenClaim := { program := "ythabgnhedmepjaa", sum := "b445eccba62f6966ca6779ad4c1b9e09e0d16e496b9ed439a8b114649f9be125", func := "loop.example/obliviousqueries/laws.FnExactOpenRow", spec := "fnExactOpenRow", unfollowed := true, recurses := true, apart := false }
def FnExactOpenRowSaid : Prop := fnExactOpenRowRow.holds Try.pinned (OpenSpec.ofChange fnExactOpenRowSpec)

/-- ITS FALSE NEIGHBOUR: 'it returns false'. Refute it at one input. -/
def fnExactOpenRowWrong : ChangeSpec := { name := "fnExactOpenRow", fn := fun _ => fun
  | [d1, d2] => { results := [.lit (.bool false)], args := [d1, d2] }
  | _ => none }
def FnExactOpenRowWrongFalsely : Prop := fnExactOpenRowRow.holds Try.pinned (OpenSpec.ofChange fnExactOpenRowWrong)

/-- 'laws.FnExactLeafOf': WHATEVER THE INPUT: true; the input reads as it did. -/
def fnExactLeafOfSpec : ChangeSpec := { name := "fnExactLeafOf", fn := fun _ => fun
  | [d1, d2] => { results := [.lit (.bool true)], args := [d1, d2] }
  | _ => none }
def fnExactLeafOfRow : OpenClaim := { program := "ythabgnhedmepjaa", sum := "b445eccba62f6966ca6779ad4c1b9e09e0d16e496b9ed439a8b114649f9be125", func := "loop.example/obliviousqueries/laws.FnExactLeafOf", spec := "fnExactLeafOf", unfollowed := true, recurses := true, apart := false }
def FnExactLeafOfSaid : Prop := fnExactLeafOfRow.holds Try.pinned (OpenSpec.ofChange fnExactLeafOfSpec)

/-- ITS FALSE NEIGHBOUR: 'it returns false'. Refute it at one input. -/
def fnExactLeafOfWrong : ChangeSpec := { name := "fnExactLeafOf", fn := fun _ => fun
  | [d1, d2] => { results := [.lit (.bool false)], args := [d1, d2] }
  | _ => none }
def FnExactLeafOfWrongFalsely : Prop := fnExactLeafOfRow.holds Try.pinned (OpenSpec.ofChange fnExactLeafOfWrong)

/-- 'laws.FnExactMemoryOf': WHATEVER THE INPUT: true; the input reads as it did. -/
def fnExactMemoryOfSpec : ChangeSpec := { name := "fnExactMemoryOf", fn := fun _ => fun
  | [d1, d2] => { results := [.lit (.bool true)], args := [d1, d2] }
  | _ => none }
def fnExactMemoryOfRow : OpenClaim := { program := "ythabgnhedmepjaa", sum := "b445eccba62f6966ca6779ad4c1b9e09e0d16e496b9ed439a8b114649f9be125", func := "loop.example/obliviousqueries/laws.FnExactMemoryOf", spec := "fnExactMemoryOf", unfollowed := true, recurses := true, apart := false }
def FnExactMemoryOfSaid : Prop := fnExactMemoryOfRow.holds Try.pinned (OpenSpec.ofChange fnExactMemoryOfSpec)

/-- ITS FALSE NEIGHBOUR: 'it returns false'. Refute it at one input. -/
def fnExactMemoryOfWrong : ChangeSpec := { name := "fnExactMemoryOf", fn := fun _ => fun
  | [d1, d2] => { results := [.lit (.bool false)], args := [d1, d2] }
  | _ => none }
def FnExactMemoryOfWrongFalsely : Prop := fnExactMemoryOfRow.holds Try.pinned (OpenSpec.ofChange fnExactMemoryOfWrong)

/-- 'laws.FnExactPathsFor': WHATEVER THE INPUT: true; the input reads as it did. -/
def fnExactPathsForSpec : ChangeSpec := { name := "fnExactPathsFor", fn := fun _ => fun
  | [d1, d2] => { results := [.lit (.bool true)], args := [d1, d2] }
  | _ => none }
def fnExactPathsForRow : OpenClaim := { program := "ythabgnhedmepjaa", sum := "b445eccba62f6966ca6779ad4c1b9e09e0d16e496b9ed439a8b114649f9be125", func := "loop.example/obliviousqueries/laws.FnExactPathsFor", spec := "fnExactPathsFor", unfollowed := true, recurses := true, apart := false }
def FnExactPathsForSaid : Prop := fnExactPathsForRow.holds Try.pinned (OpenSpec.ofChange fnExactPathsForSpec)

/-- ITS FALSE NEIGHBOUR: 'it returns false'. Refute it at one input. -/
def fnExactPathsForWrong : ChangeSpec := { name := "fnExactPathsFor", fn := fun _ => fun
  | [d1, d2] => { results := [.lit (.bool false)], args := [d1, d2] }
  | _ => none }
def FnExactPathsForWrongFalsely : Prop := fnExactPathsForRow.holds Try.pinned (OpenSpec.ofChange fnExactPathsForWrong)

/- THE SECOND FORM. 'bulk': how many values and letters a reading holds, each counted each time it is reached (what is shared counts as often as it is met; a slice's spare places count too). A statement '..UptoSaid' is the law's where the arguments, and the package variables that the reading takes, are together of bulk at most 1048576: NARROWER than '..Said'. Prove '..Said' where nothing that the law and all that it calls make is longer than what came in: it says more and counts as full. Else prove '..UptoSaid'. A law counts once. -/
mutual
def uptoBulk {H : Type} : DataW H → Nat
  | .lit (.string bytes) => bytes.length + 1
  | .lit _ => 1
  | .nil => 1
  | .ptr d => uptoBulk d + 1
  | .slice elems spare => uptoBulkAll elems + uptoBulkAll spare + 1
  | .agg parts => uptoBulkAll parts + 1
  | .iface _ d => uptoBulk d + 1
  | .map entries => uptoBulkEntries entries + 1
  | .held _ => 1
def uptoBulkAll {H : Type} : List (DataW H) → Nat
  | [] => 0
  | d :: r => uptoBulk d + uptoBulkAll r
def uptoBulkEntries {H : Type} : List (Lit × DataW H) → Nat
  | [] => 0
  | x :: r => uptoBulkEntry x + uptoBulkEntries r
def uptoBulkEntry {H : Type} : Lit × DataW H → Nat
  | (.string bytes, d) => bytes.length + uptoBulk d + 1
  | (_, d) => uptoBulk d + 1
 end
def uptoSmall : (H : Type) → List (DataW H) → Bool := fun _ ds => decide (uptoBulkAll ds ≤ 1048576)
def OpenSpec.upto (s : _root_.Go.ChangeSpec) : _root_.Go.OpenSpec := { _root_.Go.OpenSpec.ofChange s with cond := some uptoSmall }

/-- 'laws.FnExactNumbersFresh', WHERE WHAT IT READS IS OF BULK AT MOST 1048576: true; the input reads as it did. -/
def fnExactNumbersFreshUptoRow : OpenClaim := { program := "ythabgnhedmepjaa", sum := "b445eccba62f6966ca6779ad4c1b9e09e0d16e496b9ed439a8b114649f9be125", func := "loop.example/obliviousqueries/laws.FnExactNumbersFresh", spec := "fnExactNumbersFresh", apart := false, narrowed := true }
def FnExactNumbersFreshUptoSaid : Prop := fnExactNumbersFreshUptoRow.holds Try.pinned (OpenSpec.upto fnExactNumbersFreshSpec)

/-- 'laws.FnExactPairTrace', WHERE WHAT IT READS IS OF BULK AT MOST 1048576: true; the input reads as it did. -/
def fnExactPairTraceUptoRow : OpenClaim := { program := "ythabgnhedmepjaa", sum := "b445eccba62f6966ca6779ad4c1b9e09e0d16e496b9ed439a8b114649f9be125", func := "loop.example/obliviousqueries/laws.FnExactPairTrace", spec := "fnExactPairTrace", apart := false, narrowed := true }
def FnExactPairTraceUptoSaid : Prop := fnExactPairTraceUptoRow.holds Try.pinned (OpenSpec.upto fnExactPairTraceSpec)

/-- 'laws.FnExactSealRow', WHERE WHAT IT READS IS OF BULK AT MOST 1048576: true; the input reads as it did. -/
def fnExactSealRowUptoRow : OpenClaim := { program := "ythabgnhedmepjaa", sum := "b445eccba62f6966ca6779ad4c1b9e09e0d16e496b9ed439a8b114649f9be125", func := "loop.example/obliviousqueries/laws.FnExactSealRow", spec := "fnExactSealRow", unfollowed := true, recurses := true, apart := false, narrowed := true }
def FnExactSealRowUptoSaid : Prop := fnExactSealRowUptoRow.holds Try.pinned (OpenSpec.upto fnExactSealRowSpec)

/-- 'laws.FnExactMemoryValid', WHERE WHAT IT READS IS OF BULK AT MOST 1048576: true; the input reads as it did. -/
def fnExactMemoryValidUptoRow : OpenClaim := { program := "ythabgnhedmepjaa", sum := "b445eccba62f6966ca6779ad4c1b9e09e0d16e496b9ed439a8b114649f9be125", func := "loop.example/obliviousqueries/laws.FnExactMemoryValid", spec := "fnExactMemoryValid", unfollowed := true, recurses := true, apart := false, narrowed := true }
def FnExactMemoryValidUptoSaid : Prop := fnExactMemoryValidUptoRow.holds Try.pinned (OpenSpec.upto fnExactMemoryValidSpec)

/-- 'laws.FnExactOpenRow', WHERE WHAT IT READS IS OF BULK AT MOST 1048576: true; the input reads as it did. -/
def fnExactOpenRowUptoRow : OpenClaim := { program := "ythabgnhedmepjaa", sum := "b445eccba62f6966ca6779ad4c1b9e09e0d16e496b9ed439a8b114649f9be125", func := "loop.example/obliviousqueries/laws.FnExactOpenRow", spec := "fnExactOpenRow", unfollowed := true, recurses := true, apart := false, narrowed := true }
def FnExactOpenRowUptoSaid : Prop := fnExactOpenRowUptoRow.holds Try.pinned (OpenSpec.upto fnExactOpenRowSpec)

/-- 'laws.FnExactLeafOf', WHERE WHAT IT READS IS OF BULK AT MOST 1048576: true; the input reads as it did. -/
def fnExactLeafOfUptoRow : OpenClaim := { program := "ythabgnhedmepjaa", sum := "b445eccba62f6966ca6779ad4c1b9e09e0d16e496b9ed439a8b114649f9be125", func := "loop.example/obliviousqueries/laws.FnExactLeafOf", spec := "fnExactLeafOf", unfollowed := true, recurses := true, apart := false, narrowed := true }
def FnExactLeafOfUptoSaid : Prop := fnExactLeafOfUptoRow.holds Try.pinned (OpenSpec.upto fnExactLeafOfSpec)

/-- 'laws.FnExactMemoryOf', WHERE WHAT IT READS IS OF BULK AT MOST 1048576: true; the input reads as it did. -/
def fnExactMemoryOfUptoRow : OpenClaim := { program := "ythabgnhedmepjaa", sum := "b445eccba62f6966ca6779ad4c1b9e09e0d16e496b9ed439a8b114649f9be125", func := "loop.example/obliviousqueries/laws.FnExactMemoryOf", spec := "fnExactMemoryOf", unfollowed := true, recurses := true, apart := false, narrowed := true }
def FnExactMemoryOfUptoSaid : Prop := fnExactMemoryOfUptoRow.holds Try.pinned (OpenSpec.upto fnExactMemoryOfSpec)

/-- 'laws.FnExactPathsFor', WHERE WHAT IT READS IS OF BULK AT MOST 1048576: true; the input reads as it did. -/
def fnExactPathsForUptoRow : OpenClaim := { program := "ythabgnhedmepjaa", sum := "b445eccba62f6966ca6779ad4c1b9e09e0d16e496b9ed439a8b114649f9be125", func := "loop.example/obliviousqueries/laws.FnExactPathsFor", spec := "fnExactPathsFor", unfollowed := true, recurses := true, apart := false, narrowed := true }
def FnExactPathsForUptoSaid : Prop := fnExactPathsForUptoRow.holds Try.pinned (OpenSpec.upto fnExactPathsForSpec)

end Rows
end Go.Proofs.Ythabgnhedmepjaa
