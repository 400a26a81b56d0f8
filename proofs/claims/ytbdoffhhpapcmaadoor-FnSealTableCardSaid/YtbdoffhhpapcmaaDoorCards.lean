/-
  DERIVED. GIVEN WITH THE SEED: THE CARDS: each row of YtbdoffhhpapcmaaDoorRows.lean that lists a variable, with what it lists TIED to the program's text (the seventh form; the later family's looks); each row that meets fmt, with fmt's text TOLD by the authors' own Lean function (tested against real Go, not proved from fmt's source: count such statements apart). THE CARD IS WHAT COUNTS. Prove the row's statement (the work); the ties are given (YtbdoffhhpapcmaaDoorTie.lean); close each card by the builder's one call (the guide's Derived/Test/ToyasCard.lean, 'card_holds'). Laid BY PROGRAM, IN A SANDBOX (cutbox-door.mjs). By AI agents, Wed Nov 11 2026. No macro, syntax, notation, axiom, sorry.
-/
import Derived.Test.YtbdoffhhpapcmaaDoorRows
import GoSem.ClaimSeven
namespace Go.Proofs.YtbdoffhhpapcmaaDoor
namespace Rows

/-- THE TIED CARD OF 'laws.FnSealTable'. -/
def fnSealTableCard : Claim7 := { stood := { row := fnSealTableRow, standIns := [], harness := (true, "ed55e569c793011c5334074c46ba4363513ebc69b4910c1d20d1f94f994c7711"), looks := false }, kinds := [], alts := [], laidByText := true, laidKinds := [.widerDeep], laidTests := true, laidLooks := .later }
def FnSealTableCardSaid : Prop := Claim7.holds Tryd.pinned (.plain (OpenSpec.ofChange fnSealTableSpec)) fnSealTableCard

/-- THE TIED CARD OF 'laws.FnExactSealTable'. -/
def fnExactSealTableCard : Claim7 := { stood := { row := fnExactSealTableRow, standIns := [], harness := (true, "ed55e569c793011c5334074c46ba4363513ebc69b4910c1d20d1f94f994c7711"), looks := false }, kinds := [], alts := [], laidByText := true, laidKinds := [.widerDeep], laidTests := true, laidLooks := .later }
def FnExactSealTableCardSaid : Prop := Claim7.holds Tryd.pinned (.plain (OpenSpec.ofChange fnExactSealTableSpec)) fnExactSealTableCard

/-- THE TIED CARD OF 'laws.FnOpenTable'. -/
def fnOpenTableCard : Claim7 := { stood := { row := fnOpenTableRow, standIns := [], harness := (true, "ed55e569c793011c5334074c46ba4363513ebc69b4910c1d20d1f94f994c7711"), looks := false }, kinds := [], alts := [], laidByText := true, laidKinds := [.widerDeep], laidTests := true, laidLooks := .later }
def FnOpenTableCardSaid : Prop := Claim7.holds Tryd.pinned (.plain (OpenSpec.ofChange fnOpenTableSpec)) fnOpenTableCard

/-- THE TIED CARD OF 'laws.FnSealAgain'. -/
def fnSealAgainCard : Claim7 := { stood := { row := fnSealAgainRow, standIns := [], harness := (true, "ed55e569c793011c5334074c46ba4363513ebc69b4910c1d20d1f94f994c7711"), looks := false }, kinds := [], alts := [], laidByText := true, laidKinds := [.widerDeep], laidTests := true, laidLooks := .later }
def FnSealAgainCardSaid : Prop := Claim7.holds Tryd.pinned (.plain (OpenSpec.ofChange fnSealAgainSpec)) fnSealAgainCard

/-- THE TIED CARD OF 'laws.FnExactSealAgain'. -/
def fnExactSealAgainCard : Claim7 := { stood := { row := fnExactSealAgainRow, standIns := [], harness := (true, "ed55e569c793011c5334074c46ba4363513ebc69b4910c1d20d1f94f994c7711"), looks := false }, kinds := [], alts := [], laidByText := true, laidKinds := [.widerDeep], laidTests := true, laidLooks := .later }
def FnExactSealAgainCardSaid : Prop := Claim7.holds Tryd.pinned (.plain (OpenSpec.ofChange fnExactSealAgainSpec)) fnExactSealAgainCard

/-- THE TIED CARD OF 'laws.FnExactOpenTable'. -/
def fnExactOpenTableCard : Claim7 := { stood := { row := fnExactOpenTableRow, standIns := [], harness := (true, "ed55e569c793011c5334074c46ba4363513ebc69b4910c1d20d1f94f994c7711"), looks := false }, kinds := [], alts := [], laidByText := true, laidKinds := [.widerDeep], laidTests := true, laidLooks := .later }
def FnExactOpenTableCardSaid : Prop := Claim7.holds Tryd.pinned (.plain (OpenSpec.ofChange fnExactOpenTableSpec)) fnExactOpenTableCard

/-- THE SECOND FORM's CARD OF 'laws.FnSealTable'. -/
def fnSealTableUptoCard : Claim7 := { stood := { row := fnSealTableUptoRow, standIns := [], harness := (true, "ed55e569c793011c5334074c46ba4363513ebc69b4910c1d20d1f94f994c7711"), looks := false }, kinds := [], alts := [], laidByText := true, laidKinds := [.widerDeep], laidTests := true, laidLooks := .later }
def FnSealTableUptoCardSaid : Prop := Claim7.holds Tryd.pinned (.plain (OpenSpec.upto fnSealTableSpec)) fnSealTableUptoCard

/-- THE SECOND FORM's CARD OF 'laws.FnExactSealTable'. -/
def fnExactSealTableUptoCard : Claim7 := { stood := { row := fnExactSealTableUptoRow, standIns := [], harness := (true, "ed55e569c793011c5334074c46ba4363513ebc69b4910c1d20d1f94f994c7711"), looks := false }, kinds := [], alts := [], laidByText := true, laidKinds := [.widerDeep], laidTests := true, laidLooks := .later }
def FnExactSealTableUptoCardSaid : Prop := Claim7.holds Tryd.pinned (.plain (OpenSpec.upto fnExactSealTableSpec)) fnExactSealTableUptoCard

/-- THE SECOND FORM's CARD OF 'laws.FnOpenTable'. -/
def fnOpenTableUptoCard : Claim7 := { stood := { row := fnOpenTableUptoRow, standIns := [], harness := (true, "ed55e569c793011c5334074c46ba4363513ebc69b4910c1d20d1f94f994c7711"), looks := false }, kinds := [], alts := [], laidByText := true, laidKinds := [.widerDeep], laidTests := true, laidLooks := .later }
def FnOpenTableUptoCardSaid : Prop := Claim7.holds Tryd.pinned (.plain (OpenSpec.upto fnOpenTableSpec)) fnOpenTableUptoCard

/-- THE SECOND FORM's CARD OF 'laws.FnSealAgain'. -/
def fnSealAgainUptoCard : Claim7 := { stood := { row := fnSealAgainUptoRow, standIns := [], harness := (true, "ed55e569c793011c5334074c46ba4363513ebc69b4910c1d20d1f94f994c7711"), looks := false }, kinds := [], alts := [], laidByText := true, laidKinds := [.widerDeep], laidTests := true, laidLooks := .later }
def FnSealAgainUptoCardSaid : Prop := Claim7.holds Tryd.pinned (.plain (OpenSpec.upto fnSealAgainSpec)) fnSealAgainUptoCard

/-- THE SECOND FORM's CARD OF 'laws.FnExactSealAgain'. -/
def fnExactSealAgainUptoCard : Claim7 := { stood := { row := fnExactSealAgainUptoRow, standIns := [], harness := (true, "ed55e569c793011c5334074c46ba4363513ebc69b4910c1d20d1f94f994c7711"), looks := false }, kinds := [], alts := [], laidByText := true, laidKinds := [.widerDeep], laidTests := true, laidLooks := .later }
def FnExactSealAgainUptoCardSaid : Prop := Claim7.holds Tryd.pinned (.plain (OpenSpec.upto fnExactSealAgainSpec)) fnExactSealAgainUptoCard

/-- THE SECOND FORM's CARD OF 'laws.FnExactOpenTable'. -/
def fnExactOpenTableUptoCard : Claim7 := { stood := { row := fnExactOpenTableUptoRow, standIns := [], harness := (true, "ed55e569c793011c5334074c46ba4363513ebc69b4910c1d20d1f94f994c7711"), looks := false }, kinds := [], alts := [], laidByText := true, laidKinds := [.widerDeep], laidTests := true, laidLooks := .later }
def FnExactOpenTableUptoCardSaid : Prop := Claim7.holds Tryd.pinned (.plain (OpenSpec.upto fnExactOpenTableSpec)) fnExactOpenTableUptoCard
end Rows
end Go.Proofs.YtbdoffhhpapcmaaDoor
