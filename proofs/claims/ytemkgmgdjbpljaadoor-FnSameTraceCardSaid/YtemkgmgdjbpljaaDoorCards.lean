/-
  DERIVED. GIVEN WITH THE SEED: THE CARDS: each row of YtemkgmgdjbpljaaDoorRows.lean that lists a variable, with what it lists TIED to the program's text (the seventh form; the later family's looks); each row that meets fmt, with fmt's text TOLD by the authors' own Lean function (tested against real Go, not proved from fmt's source: count such statements apart). THE CARD IS WHAT COUNTS. Prove the row's statement (the work); the ties are given (YtemkgmgdjbpljaaDoorTie.lean); close each card by the builder's one call (the guide's Derived/Test/ToyasCard.lean, 'card_holds'). Laid BY PROGRAM, IN A SANDBOX (cutbox-door.mjs). By AI agents, Wed Nov 11 2026. No macro, syntax, notation, axiom, sorry.
-/
import Derived.Test.YtemkgmgdjbpljaaDoorRows
import GoSem.ClaimSeven
namespace Go.Proofs.YtemkgmgdjbpljaaDoor
namespace Rows

/-- THE TIED CARD OF 'laws.FnPadSize'. -/
def fnPadSizeCard : Claim7 := { stood := { row := fnPadSizeRow, standIns := [], harness := (true, "e1799282bdc303c4fe14fe115a089a86a8f1cbe8e17e7e8e8b7d37f806575c0f"), looks := false }, kinds := [], alts := [], laidByText := true, laidKinds := [.widerDeep], laidTests := true, laidLooks := .later }
def FnPadSizeCardSaid : Prop := Claim7.holds Tryd.pinned (.plain (OpenSpec.ofChange fnPadSizeSpec)) fnPadSizeCard

/-- THE TIED CARD OF 'laws.FnPathOf'. -/
def fnPathOfCard : Claim7 := { stood := { row := fnPathOfRow, standIns := [], harness := (true, "e1799282bdc303c4fe14fe115a089a86a8f1cbe8e17e7e8e8b7d37f806575c0f"), looks := false }, kinds := [], alts := [], laidByText := true, laidKinds := [.widerDeep], laidTests := true, laidLooks := .later }
def FnPathOfCardSaid : Prop := Claim7.holds Tryd.pinned (.plain (OpenSpec.ofChange fnPathOfSpec)) fnPathOfCard

/-- THE TIED CARD OF 'laws.FnStreamAt'. -/
def fnStreamAtCard : Claim7 := { stood := { row := fnStreamAtRow, standIns := [], harness := (true, "e1799282bdc303c4fe14fe115a089a86a8f1cbe8e17e7e8e8b7d37f806575c0f"), looks := false }, kinds := [], alts := [], laidByText := true, laidKinds := [.widerDeep], laidTests := true, laidLooks := .later }
def FnStreamAtCardSaid : Prop := Claim7.holds Tryd.pinned (.plain (OpenSpec.ofChange fnStreamAtSpec)) fnStreamAtCard

/-- THE TIED CARD OF 'laws.FnSameTrace'. -/
def fnSameTraceCard : Claim7 := { stood := { row := fnSameTraceRow, standIns := [], harness := (true, "e1799282bdc303c4fe14fe115a089a86a8f1cbe8e17e7e8e8b7d37f806575c0f"), looks := false }, kinds := [], alts := [], laidByText := true, laidKinds := [.widerDeep], laidTests := true, laidLooks := .later }
def FnSameTraceCardSaid : Prop := Claim7.holds Tryd.pinned (.plain (OpenSpec.ofChange fnSameTraceSpec)) fnSameTraceCard

/-- THE SECOND FORM's CARD OF 'laws.FnPadSize'. -/
def fnPadSizeUptoCard : Claim7 := { stood := { row := fnPadSizeUptoRow, standIns := [], harness := (true, "e1799282bdc303c4fe14fe115a089a86a8f1cbe8e17e7e8e8b7d37f806575c0f"), looks := false }, kinds := [], alts := [], laidByText := true, laidKinds := [.widerDeep], laidTests := true, laidLooks := .later }
def FnPadSizeUptoCardSaid : Prop := Claim7.holds Tryd.pinned (.plain (OpenSpec.upto fnPadSizeSpec)) fnPadSizeUptoCard

/-- THE SECOND FORM's CARD OF 'laws.FnPathOf'. -/
def fnPathOfUptoCard : Claim7 := { stood := { row := fnPathOfUptoRow, standIns := [], harness := (true, "e1799282bdc303c4fe14fe115a089a86a8f1cbe8e17e7e8e8b7d37f806575c0f"), looks := false }, kinds := [], alts := [], laidByText := true, laidKinds := [.widerDeep], laidTests := true, laidLooks := .later }
def FnPathOfUptoCardSaid : Prop := Claim7.holds Tryd.pinned (.plain (OpenSpec.upto fnPathOfSpec)) fnPathOfUptoCard

/-- THE SECOND FORM's CARD OF 'laws.FnStreamAt'. -/
def fnStreamAtUptoCard : Claim7 := { stood := { row := fnStreamAtUptoRow, standIns := [], harness := (true, "e1799282bdc303c4fe14fe115a089a86a8f1cbe8e17e7e8e8b7d37f806575c0f"), looks := false }, kinds := [], alts := [], laidByText := true, laidKinds := [.widerDeep], laidTests := true, laidLooks := .later }
def FnStreamAtUptoCardSaid : Prop := Claim7.holds Tryd.pinned (.plain (OpenSpec.upto fnStreamAtSpec)) fnStreamAtUptoCard

/-- THE SECOND FORM's CARD OF 'laws.FnSameTrace'. -/
def fnSameTraceUptoCard : Claim7 := { stood := { row := fnSameTraceUptoRow, standIns := [], harness := (true, "e1799282bdc303c4fe14fe115a089a86a8f1cbe8e17e7e8e8b7d37f806575c0f"), looks := false }, kinds := [], alts := [], laidByText := true, laidKinds := [.widerDeep], laidTests := true, laidLooks := .later }
def FnSameTraceUptoCardSaid : Prop := Claim7.holds Tryd.pinned (.plain (OpenSpec.upto fnSameTraceSpec)) fnSameTraceUptoCard
end Rows
end Go.Proofs.YtemkgmgdjbpljaaDoor
