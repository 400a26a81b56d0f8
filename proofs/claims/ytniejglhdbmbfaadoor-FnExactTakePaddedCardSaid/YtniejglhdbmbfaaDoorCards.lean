/-
  DERIVED. GIVEN WITH THE SEED: THE CARDS: each row of YtniejglhdbmbfaaDoorRows.lean that lists a variable, with what it lists TIED to the program's text (the seventh form; the later family's looks); each row that meets fmt, with fmt's text TOLD by the authors' own Lean function (tested against real Go, not proved from fmt's source: count such statements apart). THE CARD IS WHAT COUNTS. Prove the row's statement (the work); the ties are given (YtniejglhdbmbfaaDoorTie.lean); close each card by the builder's one call (the guide's Derived/Test/ToyasCard.lean, 'card_holds'). Laid BY PROGRAM, IN A SANDBOX (cutbox-door.mjs). By AI agents, Wed Nov 11 2026. No macro, syntax, notation, axiom, sorry.
-/
import Derived.Test.YtniejglhdbmbfaaDoorRows
import GoSem.ClaimSeven
namespace Go.Proofs.YtniejglhdbmbfaaDoor
namespace Rows

/-- THE TIED CARD OF 'laws.FnExactGroupPadded'. -/
def fnExactGroupPaddedCard : Claim7 := { stood := { row := fnExactGroupPaddedRow, standIns := [], harness := (true, "365f2c402b3fb7a25bed419d32cf46dc5c394fe94c02d6cd4a3bb4b869d5ddb3"), looks := false }, kinds := [], alts := [], laidByText := true, laidKinds := [.widerDeep], laidTests := true, laidLooks := .later }
def FnExactGroupPaddedCardSaid : Prop := Claim7.holds Tryd.pinned (.plain (OpenSpec.ofChange fnExactGroupPaddedSpec)) fnExactGroupPaddedCard

/-- THE TIED CARD OF 'laws.FnExactJoinPadded'. -/
def fnExactJoinPaddedCard : Claim7 := { stood := { row := fnExactJoinPaddedRow, standIns := [], harness := (true, "365f2c402b3fb7a25bed419d32cf46dc5c394fe94c02d6cd4a3bb4b869d5ddb3"), looks := false }, kinds := [], alts := [], laidByText := true, laidKinds := [.widerDeep], laidTests := true, laidLooks := .later }
def FnExactJoinPaddedCardSaid : Prop := Claim7.holds Tryd.pinned (.plain (OpenSpec.ofChange fnExactJoinPaddedSpec)) fnExactJoinPaddedCard

/-- THE TIED CARD OF 'laws.FnGroupPadded'. -/
def fnGroupPaddedCard : Claim7 := { stood := { row := fnGroupPaddedRow, standIns := [], harness := (true, "365f2c402b3fb7a25bed419d32cf46dc5c394fe94c02d6cd4a3bb4b869d5ddb3"), looks := false }, kinds := [], alts := [], laidByText := true, laidKinds := [.widerDeep], laidTests := true, laidLooks := .later }
def FnGroupPaddedCardSaid : Prop := Claim7.holds Tryd.pinned (.plain (OpenSpec.ofChange fnGroupPaddedSpec)) fnGroupPaddedCard

/-- THE TIED CARD OF 'laws.FnTakePadded'. -/
def fnTakePaddedCard : Claim7 := { stood := { row := fnTakePaddedRow, standIns := [], harness := (true, "365f2c402b3fb7a25bed419d32cf46dc5c394fe94c02d6cd4a3bb4b869d5ddb3"), looks := false }, kinds := [], alts := [], laidByText := true, laidKinds := [.widerDeep], laidTests := true, laidLooks := .later }
def FnTakePaddedCardSaid : Prop := Claim7.holds Tryd.pinned (.plain (OpenSpec.ofChange fnTakePaddedSpec)) fnTakePaddedCard

/-- THE TIED CARD OF 'laws.FnCutPadded'. -/
def fnCutPaddedCard : Claim7 := { stood := { row := fnCutPaddedRow, standIns := [], harness := (true, "365f2c402b3fb7a25bed419d32cf46dc5c394fe94c02d6cd4a3bb4b869d5ddb3"), looks := false }, kinds := [], alts := [], laidByText := true, laidKinds := [.widerDeep], laidTests := true, laidLooks := .later }
def FnCutPaddedCardSaid : Prop := Claim7.holds Tryd.pinned (.plain (OpenSpec.ofChange fnCutPaddedSpec)) fnCutPaddedCard

/-- THE TIED CARD OF 'laws.FnExactCutPadded'. -/
def fnExactCutPaddedCard : Claim7 := { stood := { row := fnExactCutPaddedRow, standIns := [], harness := (true, "365f2c402b3fb7a25bed419d32cf46dc5c394fe94c02d6cd4a3bb4b869d5ddb3"), looks := false }, kinds := [], alts := [], laidByText := true, laidKinds := [.widerDeep], laidTests := true, laidLooks := .later }
def FnExactCutPaddedCardSaid : Prop := Claim7.holds Tryd.pinned (.plain (OpenSpec.ofChange fnExactCutPaddedSpec)) fnExactCutPaddedCard

/-- THE TIED CARD OF 'laws.FnExactTakePadded'. -/
def fnExactTakePaddedCard : Claim7 := { stood := { row := fnExactTakePaddedRow, standIns := [], harness := (true, "365f2c402b3fb7a25bed419d32cf46dc5c394fe94c02d6cd4a3bb4b869d5ddb3"), looks := false }, kinds := [], alts := [], laidByText := true, laidKinds := [.widerDeep], laidTests := true, laidLooks := .later }
def FnExactTakePaddedCardSaid : Prop := Claim7.holds Tryd.pinned (.plain (OpenSpec.ofChange fnExactTakePaddedSpec)) fnExactTakePaddedCard

/-- THE TIED CARD OF 'laws.FnSortTwice'. -/
def fnSortTwiceCard : Claim7 := { stood := { row := fnSortTwiceRow, standIns := [], harness := (true, "365f2c402b3fb7a25bed419d32cf46dc5c394fe94c02d6cd4a3bb4b869d5ddb3"), looks := false }, kinds := [], alts := [], laidByText := true, laidKinds := [.widerDeep], laidTests := true, laidLooks := .later }
def FnSortTwiceCardSaid : Prop := Claim7.holds Tryd.pinned (.plain (OpenSpec.ofChange fnSortTwiceSpec)) fnSortTwiceCard

/-- THE TIED CARD OF 'laws.FnSortCut'. -/
def fnSortCutCard : Claim7 := { stood := { row := fnSortCutRow, standIns := [], harness := (true, "365f2c402b3fb7a25bed419d32cf46dc5c394fe94c02d6cd4a3bb4b869d5ddb3"), looks := false }, kinds := [], alts := [], laidByText := true, laidKinds := [.widerDeep], laidTests := true, laidLooks := .later }
def FnSortCutCardSaid : Prop := Claim7.holds Tryd.pinned (.plain (OpenSpec.ofChange fnSortCutSpec)) fnSortCutCard

/-- THE TIED CARD OF 'laws.FnExactSortPadded'. -/
def fnExactSortPaddedCard : Claim7 := { stood := { row := fnExactSortPaddedRow, standIns := [], harness := (true, "365f2c402b3fb7a25bed419d32cf46dc5c394fe94c02d6cd4a3bb4b869d5ddb3"), looks := false }, kinds := [], alts := [], laidByText := true, laidKinds := [.widerDeep], laidTests := true, laidLooks := .later }
def FnExactSortPaddedCardSaid : Prop := Claim7.holds Tryd.pinned (.plain (OpenSpec.ofChange fnExactSortPaddedSpec)) fnExactSortPaddedCard

/-- THE SECOND FORM's CARD OF 'laws.FnExactGroupPadded'. -/
def fnExactGroupPaddedUptoCard : Claim7 := { stood := { row := fnExactGroupPaddedUptoRow, standIns := [], harness := (true, "365f2c402b3fb7a25bed419d32cf46dc5c394fe94c02d6cd4a3bb4b869d5ddb3"), looks := false }, kinds := [], alts := [], laidByText := true, laidKinds := [.widerDeep], laidTests := true, laidLooks := .later }
def FnExactGroupPaddedUptoCardSaid : Prop := Claim7.holds Tryd.pinned (.plain (OpenSpec.upto fnExactGroupPaddedSpec)) fnExactGroupPaddedUptoCard

/-- THE SECOND FORM's CARD OF 'laws.FnExactJoinPadded'. -/
def fnExactJoinPaddedUptoCard : Claim7 := { stood := { row := fnExactJoinPaddedUptoRow, standIns := [], harness := (true, "365f2c402b3fb7a25bed419d32cf46dc5c394fe94c02d6cd4a3bb4b869d5ddb3"), looks := false }, kinds := [], alts := [], laidByText := true, laidKinds := [.widerDeep], laidTests := true, laidLooks := .later }
def FnExactJoinPaddedUptoCardSaid : Prop := Claim7.holds Tryd.pinned (.plain (OpenSpec.upto fnExactJoinPaddedSpec)) fnExactJoinPaddedUptoCard

/-- THE SECOND FORM's CARD OF 'laws.FnGroupPadded'. -/
def fnGroupPaddedUptoCard : Claim7 := { stood := { row := fnGroupPaddedUptoRow, standIns := [], harness := (true, "365f2c402b3fb7a25bed419d32cf46dc5c394fe94c02d6cd4a3bb4b869d5ddb3"), looks := false }, kinds := [], alts := [], laidByText := true, laidKinds := [.widerDeep], laidTests := true, laidLooks := .later }
def FnGroupPaddedUptoCardSaid : Prop := Claim7.holds Tryd.pinned (.plain (OpenSpec.upto fnGroupPaddedSpec)) fnGroupPaddedUptoCard

/-- THE SECOND FORM's CARD OF 'laws.FnTakePadded'. -/
def fnTakePaddedUptoCard : Claim7 := { stood := { row := fnTakePaddedUptoRow, standIns := [], harness := (true, "365f2c402b3fb7a25bed419d32cf46dc5c394fe94c02d6cd4a3bb4b869d5ddb3"), looks := false }, kinds := [], alts := [], laidByText := true, laidKinds := [.widerDeep], laidTests := true, laidLooks := .later }
def FnTakePaddedUptoCardSaid : Prop := Claim7.holds Tryd.pinned (.plain (OpenSpec.upto fnTakePaddedSpec)) fnTakePaddedUptoCard

/-- THE SECOND FORM's CARD OF 'laws.FnCutPadded'. -/
def fnCutPaddedUptoCard : Claim7 := { stood := { row := fnCutPaddedUptoRow, standIns := [], harness := (true, "365f2c402b3fb7a25bed419d32cf46dc5c394fe94c02d6cd4a3bb4b869d5ddb3"), looks := false }, kinds := [], alts := [], laidByText := true, laidKinds := [.widerDeep], laidTests := true, laidLooks := .later }
def FnCutPaddedUptoCardSaid : Prop := Claim7.holds Tryd.pinned (.plain (OpenSpec.upto fnCutPaddedSpec)) fnCutPaddedUptoCard

/-- THE SECOND FORM's CARD OF 'laws.FnExactCutPadded'. -/
def fnExactCutPaddedUptoCard : Claim7 := { stood := { row := fnExactCutPaddedUptoRow, standIns := [], harness := (true, "365f2c402b3fb7a25bed419d32cf46dc5c394fe94c02d6cd4a3bb4b869d5ddb3"), looks := false }, kinds := [], alts := [], laidByText := true, laidKinds := [.widerDeep], laidTests := true, laidLooks := .later }
def FnExactCutPaddedUptoCardSaid : Prop := Claim7.holds Tryd.pinned (.plain (OpenSpec.upto fnExactCutPaddedSpec)) fnExactCutPaddedUptoCard

/-- THE SECOND FORM's CARD OF 'laws.FnExactTakePadded'. -/
def fnExactTakePaddedUptoCard : Claim7 := { stood := { row := fnExactTakePaddedUptoRow, standIns := [], harness := (true, "365f2c402b3fb7a25bed419d32cf46dc5c394fe94c02d6cd4a3bb4b869d5ddb3"), looks := false }, kinds := [], alts := [], laidByText := true, laidKinds := [.widerDeep], laidTests := true, laidLooks := .later }
def FnExactTakePaddedUptoCardSaid : Prop := Claim7.holds Tryd.pinned (.plain (OpenSpec.upto fnExactTakePaddedSpec)) fnExactTakePaddedUptoCard

/-- THE SECOND FORM's CARD OF 'laws.FnSortTwice'. -/
def fnSortTwiceUptoCard : Claim7 := { stood := { row := fnSortTwiceUptoRow, standIns := [], harness := (true, "365f2c402b3fb7a25bed419d32cf46dc5c394fe94c02d6cd4a3bb4b869d5ddb3"), looks := false }, kinds := [], alts := [], laidByText := true, laidKinds := [.widerDeep], laidTests := true, laidLooks := .later }
def FnSortTwiceUptoCardSaid : Prop := Claim7.holds Tryd.pinned (.plain (OpenSpec.upto fnSortTwiceSpec)) fnSortTwiceUptoCard

/-- THE SECOND FORM's CARD OF 'laws.FnSortCut'. -/
def fnSortCutUptoCard : Claim7 := { stood := { row := fnSortCutUptoRow, standIns := [], harness := (true, "365f2c402b3fb7a25bed419d32cf46dc5c394fe94c02d6cd4a3bb4b869d5ddb3"), looks := false }, kinds := [], alts := [], laidByText := true, laidKinds := [.widerDeep], laidTests := true, laidLooks := .later }
def FnSortCutUptoCardSaid : Prop := Claim7.holds Tryd.pinned (.plain (OpenSpec.upto fnSortCutSpec)) fnSortCutUptoCard

/-- THE SECOND FORM's CARD OF 'laws.FnExactSortPadded'. -/
def fnExactSortPaddedUptoCard : Claim7 := { stood := { row := fnExactSortPaddedUptoRow, standIns := [], harness := (true, "365f2c402b3fb7a25bed419d32cf46dc5c394fe94c02d6cd4a3bb4b869d5ddb3"), looks := false }, kinds := [], alts := [], laidByText := true, laidKinds := [.widerDeep], laidTests := true, laidLooks := .later }
def FnExactSortPaddedUptoCardSaid : Prop := Claim7.holds Tryd.pinned (.plain (OpenSpec.upto fnExactSortPaddedSpec)) fnExactSortPaddedUptoCard
end Rows
end Go.Proofs.YtniejglhdbmbfaaDoor
