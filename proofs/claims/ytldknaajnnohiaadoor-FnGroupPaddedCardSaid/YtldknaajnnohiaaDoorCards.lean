/-
  DERIVED. GIVEN WITH THE SEED: THE CARDS: each row of YtldknaajnnohiaaDoorRows.lean that lists a variable, with what it lists TIED to the program's text (the seventh form; the later family's looks); each row that meets fmt, with fmt's text TOLD by the authors' own Lean function (tested against real Go, not proved from fmt's source: count such statements apart). THE CARD IS WHAT COUNTS. Prove the row's statement (the work); the ties are given (YtldknaajnnohiaaDoorTie.lean); close each card by the builder's one call (the guide's Derived/Test/ToyasCard.lean, 'card_holds'). Laid BY PROGRAM, IN A SANDBOX (cutbox-door.mjs). By AI agents, Wed Nov 11 2026. No macro, syntax, notation, axiom, sorry.
-/
import Derived.Test.YtldknaajnnohiaaDoorRows
import GoSem.ClaimSeven
namespace Go.Proofs.YtldknaajnnohiaaDoor
namespace Rows

/-- THE TIED CARD OF 'laws.FnOpenTable'. -/
def fnOpenTableCard : Claim7 := { stood := { row := fnOpenTableRow, standIns := [], harness := (true, "931d74df5afdbd780c61c5f20341f009e4ca6ab457cfd91394e8ecdeaa34b2df"), looks := false }, kinds := [], alts := [], laidByText := true, laidKinds := [.widerDeep], laidTests := true, laidLooks := .later }
def FnOpenTableCardSaid : Prop := Claim7.holds Tryd.pinned (.plain (OpenSpec.ofChange fnOpenTableSpec)) fnOpenTableCard

/-- THE TIED CARD OF 'laws.FnSealAgain'. -/
def fnSealAgainCard : Claim7 := { stood := { row := fnSealAgainRow, standIns := [], harness := (true, "931d74df5afdbd780c61c5f20341f009e4ca6ab457cfd91394e8ecdeaa34b2df"), looks := false }, kinds := [], alts := [], laidByText := true, laidKinds := [.widerDeep], laidTests := true, laidLooks := .later }
def FnSealAgainCardSaid : Prop := Claim7.holds Tryd.pinned (.plain (OpenSpec.ofChange fnSealAgainSpec)) fnSealAgainCard

/-- THE TIED CARD OF 'laws.FnTakePadded'. -/
def fnTakePaddedCard : Claim7 := { stood := { row := fnTakePaddedRow, standIns := [], harness := (true, "931d74df5afdbd780c61c5f20341f009e4ca6ab457cfd91394e8ecdeaa34b2df"), looks := false }, kinds := [], alts := [], laidByText := true, laidKinds := [.widerDeep], laidTests := true, laidLooks := .later }
def FnTakePaddedCardSaid : Prop := Claim7.holds Tryd.pinned (.plain (OpenSpec.ofChange fnTakePaddedSpec)) fnTakePaddedCard

/-- THE TIED CARD OF 'laws.FnCutPadded'. -/
def fnCutPaddedCard : Claim7 := { stood := { row := fnCutPaddedRow, standIns := [], harness := (true, "931d74df5afdbd780c61c5f20341f009e4ca6ab457cfd91394e8ecdeaa34b2df"), looks := false }, kinds := [], alts := [], laidByText := true, laidKinds := [.widerDeep], laidTests := true, laidLooks := .later }
def FnCutPaddedCardSaid : Prop := Claim7.holds Tryd.pinned (.plain (OpenSpec.ofChange fnCutPaddedSpec)) fnCutPaddedCard

/-- THE TIED CARD OF 'laws.FnSortTwice'. -/
def fnSortTwiceCard : Claim7 := { stood := { row := fnSortTwiceRow, standIns := [], harness := (true, "931d74df5afdbd780c61c5f20341f009e4ca6ab457cfd91394e8ecdeaa34b2df"), looks := false }, kinds := [], alts := [], laidByText := true, laidKinds := [.widerDeep], laidTests := true, laidLooks := .later }
def FnSortTwiceCardSaid : Prop := Claim7.holds Tryd.pinned (.plain (OpenSpec.ofChange fnSortTwiceSpec)) fnSortTwiceCard

/-- THE TIED CARD OF 'laws.FnSortCut'. -/
def fnSortCutCard : Claim7 := { stood := { row := fnSortCutRow, standIns := [], harness := (true, "931d74df5afdbd780c61c5f20341f009e4ca6ab457cfd91394e8ecdeaa34b2df"), looks := false }, kinds := [], alts := [], laidByText := true, laidKinds := [.widerDeep], laidTests := true, laidLooks := .later }
def FnSortCutCardSaid : Prop := Claim7.holds Tryd.pinned (.plain (OpenSpec.ofChange fnSortCutSpec)) fnSortCutCard

/-- THE TIED CARD OF 'laws.FnExactSortPadded'. -/
def fnExactSortPaddedCard : Claim7 := { stood := { row := fnExactSortPaddedRow, standIns := [], harness := (true, "931d74df5afdbd780c61c5f20341f009e4ca6ab457cfd91394e8ecdeaa34b2df"), looks := false }, kinds := [], alts := [], laidByText := true, laidKinds := [.widerDeep], laidTests := true, laidLooks := .later }
def FnExactSortPaddedCardSaid : Prop := Claim7.holds Tryd.pinned (.plain (OpenSpec.ofChange fnExactSortPaddedSpec)) fnExactSortPaddedCard

/-- THE TIED CARD OF 'laws.FnExactGroupPadded'. -/
def fnExactGroupPaddedCard : Claim7 := { stood := { row := fnExactGroupPaddedRow, standIns := [], harness := (true, "931d74df5afdbd780c61c5f20341f009e4ca6ab457cfd91394e8ecdeaa34b2df"), looks := false }, kinds := [], alts := [], laidByText := true, laidKinds := [.widerDeep], laidTests := true, laidLooks := .later }
def FnExactGroupPaddedCardSaid : Prop := Claim7.holds Tryd.pinned (.plain (OpenSpec.ofChange fnExactGroupPaddedSpec)) fnExactGroupPaddedCard

/-- THE TIED CARD OF 'laws.FnGroupPadded'. -/
def fnGroupPaddedCard : Claim7 := { stood := { row := fnGroupPaddedRow, standIns := [], harness := (true, "931d74df5afdbd780c61c5f20341f009e4ca6ab457cfd91394e8ecdeaa34b2df"), looks := false }, kinds := [], alts := [], laidByText := true, laidKinds := [.widerDeep], laidTests := true, laidLooks := .later }
def FnGroupPaddedCardSaid : Prop := Claim7.holds Tryd.pinned (.plain (OpenSpec.ofChange fnGroupPaddedSpec)) fnGroupPaddedCard

/-- THE TIED CARD OF 'laws.FnExactJoinPadded'. -/
def fnExactJoinPaddedCard : Claim7 := { stood := { row := fnExactJoinPaddedRow, standIns := [], harness := (true, "931d74df5afdbd780c61c5f20341f009e4ca6ab457cfd91394e8ecdeaa34b2df"), looks := false }, kinds := [], alts := [], laidByText := true, laidKinds := [.widerDeep], laidTests := true, laidLooks := .later }
def FnExactJoinPaddedCardSaid : Prop := Claim7.holds Tryd.pinned (.plain (OpenSpec.ofChange fnExactJoinPaddedSpec)) fnExactJoinPaddedCard

/-- THE TIED CARD OF 'laws.FnPairTrace'. -/
def fnPairTraceCard : Claim7 := { stood := { row := fnPairTraceRow, standIns := [], harness := (true, "931d74df5afdbd780c61c5f20341f009e4ca6ab457cfd91394e8ecdeaa34b2df"), looks := false }, kinds := [], alts := [], laidByText := true, laidKinds := [.widerDeep], laidTests := true, laidLooks := .later }
def FnPairTraceCardSaid : Prop := Claim7.holds Tryd.pinned (.plain (OpenSpec.ofChange fnPairTraceSpec)) fnPairTraceCard

/-- THE TIED CARD OF 'laws.FnMemoryValid'. -/
def fnMemoryValidCard : Claim7 := { stood := { row := fnMemoryValidRow, standIns := [], harness := (true, "931d74df5afdbd780c61c5f20341f009e4ca6ab457cfd91394e8ecdeaa34b2df"), looks := false }, kinds := [], alts := [], laidByText := true, laidKinds := [.widerDeep], laidTests := true, laidLooks := .later }
def FnMemoryValidCardSaid : Prop := Claim7.holds Tryd.pinned (.plain (OpenSpec.ofChange fnMemoryValidSpec)) fnMemoryValidCard

/-- THE SECOND FORM's CARD OF 'laws.FnOpenTable'. -/
def fnOpenTableUptoCard : Claim7 := { stood := { row := fnOpenTableUptoRow, standIns := [], harness := (true, "931d74df5afdbd780c61c5f20341f009e4ca6ab457cfd91394e8ecdeaa34b2df"), looks := false }, kinds := [], alts := [], laidByText := true, laidKinds := [.widerDeep], laidTests := true, laidLooks := .later }
def FnOpenTableUptoCardSaid : Prop := Claim7.holds Tryd.pinned (.plain (OpenSpec.upto fnOpenTableSpec)) fnOpenTableUptoCard

/-- THE SECOND FORM's CARD OF 'laws.FnSealAgain'. -/
def fnSealAgainUptoCard : Claim7 := { stood := { row := fnSealAgainUptoRow, standIns := [], harness := (true, "931d74df5afdbd780c61c5f20341f009e4ca6ab457cfd91394e8ecdeaa34b2df"), looks := false }, kinds := [], alts := [], laidByText := true, laidKinds := [.widerDeep], laidTests := true, laidLooks := .later }
def FnSealAgainUptoCardSaid : Prop := Claim7.holds Tryd.pinned (.plain (OpenSpec.upto fnSealAgainSpec)) fnSealAgainUptoCard

/-- THE SECOND FORM's CARD OF 'laws.FnTakePadded'. -/
def fnTakePaddedUptoCard : Claim7 := { stood := { row := fnTakePaddedUptoRow, standIns := [], harness := (true, "931d74df5afdbd780c61c5f20341f009e4ca6ab457cfd91394e8ecdeaa34b2df"), looks := false }, kinds := [], alts := [], laidByText := true, laidKinds := [.widerDeep], laidTests := true, laidLooks := .later }
def FnTakePaddedUptoCardSaid : Prop := Claim7.holds Tryd.pinned (.plain (OpenSpec.upto fnTakePaddedSpec)) fnTakePaddedUptoCard

/-- THE SECOND FORM's CARD OF 'laws.FnCutPadded'. -/
def fnCutPaddedUptoCard : Claim7 := { stood := { row := fnCutPaddedUptoRow, standIns := [], harness := (true, "931d74df5afdbd780c61c5f20341f009e4ca6ab457cfd91394e8ecdeaa34b2df"), looks := false }, kinds := [], alts := [], laidByText := true, laidKinds := [.widerDeep], laidTests := true, laidLooks := .later }
def FnCutPaddedUptoCardSaid : Prop := Claim7.holds Tryd.pinned (.plain (OpenSpec.upto fnCutPaddedSpec)) fnCutPaddedUptoCard

/-- THE SECOND FORM's CARD OF 'laws.FnSortTwice'. -/
def fnSortTwiceUptoCard : Claim7 := { stood := { row := fnSortTwiceUptoRow, standIns := [], harness := (true, "931d74df5afdbd780c61c5f20341f009e4ca6ab457cfd91394e8ecdeaa34b2df"), looks := false }, kinds := [], alts := [], laidByText := true, laidKinds := [.widerDeep], laidTests := true, laidLooks := .later }
def FnSortTwiceUptoCardSaid : Prop := Claim7.holds Tryd.pinned (.plain (OpenSpec.upto fnSortTwiceSpec)) fnSortTwiceUptoCard

/-- THE SECOND FORM's CARD OF 'laws.FnSortCut'. -/
def fnSortCutUptoCard : Claim7 := { stood := { row := fnSortCutUptoRow, standIns := [], harness := (true, "931d74df5afdbd780c61c5f20341f009e4ca6ab457cfd91394e8ecdeaa34b2df"), looks := false }, kinds := [], alts := [], laidByText := true, laidKinds := [.widerDeep], laidTests := true, laidLooks := .later }
def FnSortCutUptoCardSaid : Prop := Claim7.holds Tryd.pinned (.plain (OpenSpec.upto fnSortCutSpec)) fnSortCutUptoCard

/-- THE SECOND FORM's CARD OF 'laws.FnExactSortPadded'. -/
def fnExactSortPaddedUptoCard : Claim7 := { stood := { row := fnExactSortPaddedUptoRow, standIns := [], harness := (true, "931d74df5afdbd780c61c5f20341f009e4ca6ab457cfd91394e8ecdeaa34b2df"), looks := false }, kinds := [], alts := [], laidByText := true, laidKinds := [.widerDeep], laidTests := true, laidLooks := .later }
def FnExactSortPaddedUptoCardSaid : Prop := Claim7.holds Tryd.pinned (.plain (OpenSpec.upto fnExactSortPaddedSpec)) fnExactSortPaddedUptoCard

/-- THE SECOND FORM's CARD OF 'laws.FnExactGroupPadded'. -/
def fnExactGroupPaddedUptoCard : Claim7 := { stood := { row := fnExactGroupPaddedUptoRow, standIns := [], harness := (true, "931d74df5afdbd780c61c5f20341f009e4ca6ab457cfd91394e8ecdeaa34b2df"), looks := false }, kinds := [], alts := [], laidByText := true, laidKinds := [.widerDeep], laidTests := true, laidLooks := .later }
def FnExactGroupPaddedUptoCardSaid : Prop := Claim7.holds Tryd.pinned (.plain (OpenSpec.upto fnExactGroupPaddedSpec)) fnExactGroupPaddedUptoCard

/-- THE SECOND FORM's CARD OF 'laws.FnGroupPadded'. -/
def fnGroupPaddedUptoCard : Claim7 := { stood := { row := fnGroupPaddedUptoRow, standIns := [], harness := (true, "931d74df5afdbd780c61c5f20341f009e4ca6ab457cfd91394e8ecdeaa34b2df"), looks := false }, kinds := [], alts := [], laidByText := true, laidKinds := [.widerDeep], laidTests := true, laidLooks := .later }
def FnGroupPaddedUptoCardSaid : Prop := Claim7.holds Tryd.pinned (.plain (OpenSpec.upto fnGroupPaddedSpec)) fnGroupPaddedUptoCard

/-- THE SECOND FORM's CARD OF 'laws.FnExactJoinPadded'. -/
def fnExactJoinPaddedUptoCard : Claim7 := { stood := { row := fnExactJoinPaddedUptoRow, standIns := [], harness := (true, "931d74df5afdbd780c61c5f20341f009e4ca6ab457cfd91394e8ecdeaa34b2df"), looks := false }, kinds := [], alts := [], laidByText := true, laidKinds := [.widerDeep], laidTests := true, laidLooks := .later }
def FnExactJoinPaddedUptoCardSaid : Prop := Claim7.holds Tryd.pinned (.plain (OpenSpec.upto fnExactJoinPaddedSpec)) fnExactJoinPaddedUptoCard

/-- THE SECOND FORM's CARD OF 'laws.FnPairTrace'. -/
def fnPairTraceUptoCard : Claim7 := { stood := { row := fnPairTraceUptoRow, standIns := [], harness := (true, "931d74df5afdbd780c61c5f20341f009e4ca6ab457cfd91394e8ecdeaa34b2df"), looks := false }, kinds := [], alts := [], laidByText := true, laidKinds := [.widerDeep], laidTests := true, laidLooks := .later }
def FnPairTraceUptoCardSaid : Prop := Claim7.holds Tryd.pinned (.plain (OpenSpec.upto fnPairTraceSpec)) fnPairTraceUptoCard

/-- THE SECOND FORM's CARD OF 'laws.FnMemoryValid'. -/
def fnMemoryValidUptoCard : Claim7 := { stood := { row := fnMemoryValidUptoRow, standIns := [], harness := (true, "931d74df5afdbd780c61c5f20341f009e4ca6ab457cfd91394e8ecdeaa34b2df"), looks := false }, kinds := [], alts := [], laidByText := true, laidKinds := [.widerDeep], laidTests := true, laidLooks := .later }
def FnMemoryValidUptoCardSaid : Prop := Claim7.holds Tryd.pinned (.plain (OpenSpec.upto fnMemoryValidSpec)) fnMemoryValidUptoCard
end Rows
end Go.Proofs.YtldknaajnnohiaaDoor
