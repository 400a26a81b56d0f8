/-
  DERIVED. GIVEN WITH THE SEED: THE CARDS: each row of YtgdaclbijgcnpaaDoorRows.lean that lists a variable, with what it lists TIED to the program's text (the seventh form; the later family's looks); each row that meets fmt, with fmt's text TOLD by the authors' own Lean function (tested against real Go, not proved from fmt's source: count such statements apart). THE CARD IS WHAT COUNTS. Prove the row's statement (the work); the ties are given (YtgdaclbijgcnpaaDoorTie.lean); close each card by the builder's one call (the guide's Derived/Test/ToyasCard.lean, 'card_holds'). Laid BY PROGRAM, IN A SANDBOX (cutbox-door.mjs). By AI agents, Wed Nov 11 2026. No macro, syntax, notation, axiom, sorry.
-/
import Derived.Test.YtgdaclbijgcnpaaDoorRows
import GoSem.ClaimSeven
namespace Go.Proofs.YtgdaclbijgcnpaaDoor
namespace Rows

/-- THE TIED CARD OF 'laws.FnExactShapesValid'. -/
def fnExactShapesValidCard : Claim7 := { stood := { row := fnExactShapesValidRow, standIns := [], harness := (true, "36366a3c2d1d126760efc77bbd94e1bc48d69b6cd284dbfd14adcc543c02ae6c"), looks := false }, kinds := [], alts := [], laidByText := true, laidKinds := [.widerDeep], laidTests := true, laidLooks := .later }
def FnExactShapesValidCardSaid : Prop := Claim7.holds Tryd.pinned (.plain (OpenSpec.ofChange fnExactShapesValidSpec)) fnExactShapesValidCard

/-- THE TIED CARD OF 'laws.FnExactSameShapes'. -/
def fnExactSameShapesCard : Claim7 := { stood := { row := fnExactSameShapesRow, standIns := [], harness := (true, "36366a3c2d1d126760efc77bbd94e1bc48d69b6cd284dbfd14adcc543c02ae6c"), looks := false }, kinds := [], alts := [], laidByText := true, laidKinds := [.widerDeep], laidTests := true, laidLooks := .later }
def FnExactSameShapesCardSaid : Prop := Claim7.holds Tryd.pinned (.plain (OpenSpec.ofChange fnExactSameShapesSpec)) fnExactSameShapesCard

/-- THE TIED CARD OF 'laws.FnShapesValid'. -/
def fnShapesValidCard : Claim7 := { stood := { row := fnShapesValidRow, standIns := [], harness := (true, "36366a3c2d1d126760efc77bbd94e1bc48d69b6cd284dbfd14adcc543c02ae6c"), looks := false }, kinds := [], alts := [], laidByText := true, laidKinds := [.widerDeep], laidTests := true, laidLooks := .later }
def FnShapesValidCardSaid : Prop := Claim7.holds Tryd.pinned (.plain (OpenSpec.ofChange fnShapesValidSpec)) fnShapesValidCard

/-- THE TIED CARD OF 'laws.FnShapesOf'. -/
def fnShapesOfCard : Claim7 := { stood := { row := fnShapesOfRow, standIns := [], harness := (true, "36366a3c2d1d126760efc77bbd94e1bc48d69b6cd284dbfd14adcc543c02ae6c"), looks := false }, kinds := [], alts := [], laidByText := true, laidKinds := [.widerDeep], laidTests := true, laidLooks := .later }
def FnShapesOfCardSaid : Prop := Claim7.holds Tryd.pinned (.plain (OpenSpec.ofChange fnShapesOfSpec)) fnShapesOfCard

/-- THE TIED CARD OF 'laws.FnShapeRows'. -/
def fnShapeRowsCard : Claim7 := { stood := { row := fnShapeRowsRow, standIns := [], harness := (true, "36366a3c2d1d126760efc77bbd94e1bc48d69b6cd284dbfd14adcc543c02ae6c"), looks := false }, kinds := [], alts := [], laidByText := true, laidKinds := [.widerDeep], laidTests := true, laidLooks := .later }
def FnShapeRowsCardSaid : Prop := Claim7.holds Tryd.pinned (.plain (OpenSpec.ofChange fnShapeRowsSpec)) fnShapeRowsCard

/-- THE TIED CARD OF 'laws.FnSameShapes'. -/
def fnSameShapesCard : Claim7 := { stood := { row := fnSameShapesRow, standIns := [], harness := (true, "36366a3c2d1d126760efc77bbd94e1bc48d69b6cd284dbfd14adcc543c02ae6c"), looks := false }, kinds := [], alts := [], laidByText := true, laidKinds := [.widerDeep], laidTests := true, laidLooks := .later }
def FnSameShapesCardSaid : Prop := Claim7.holds Tryd.pinned (.plain (OpenSpec.ofChange fnSameShapesSpec)) fnSameShapesCard

/-- THE TIED CARD OF 'laws.FnExactShapesOf'. -/
def fnExactShapesOfCard : Claim7 := { stood := { row := fnExactShapesOfRow, standIns := [], harness := (true, "36366a3c2d1d126760efc77bbd94e1bc48d69b6cd284dbfd14adcc543c02ae6c"), looks := false }, kinds := [], alts := [], laidByText := true, laidKinds := [.widerDeep], laidTests := true, laidLooks := .later }
def FnExactShapesOfCardSaid : Prop := Claim7.holds Tryd.pinned (.plain (OpenSpec.ofChange fnExactShapesOfSpec)) fnExactShapesOfCard

/-- THE TIED CARD OF 'laws.FnExactShapeText'. -/
def fnExactShapeTextCard : Claim7 := { stood := { row := fnExactShapeTextRow, standIns := [], harness := (true, "36366a3c2d1d126760efc77bbd94e1bc48d69b6cd284dbfd14adcc543c02ae6c"), looks := false }, kinds := [], alts := [], laidByText := true, laidKinds := [.data, .data, .data, .widerDeep], laidTests := true, laidLooks := .later }
def FnExactShapeTextCardSaid : Prop := Claim7.holds Tryd.pinned (.plain (OpenSpec.ofChange fnExactShapeTextSpec)) fnExactShapeTextCard

/-- THE TIED CARD OF 'laws.FnExactTableText'. -/
def fnExactTableTextCard : Claim7 := { stood := { row := fnExactTableTextRow, standIns := [], harness := (true, "36366a3c2d1d126760efc77bbd94e1bc48d69b6cd284dbfd14adcc543c02ae6c"), looks := false }, kinds := [], alts := [], laidByText := true, laidKinds := [.data, .data, .data, .widerDeep], laidTests := true, laidLooks := .later }
def FnExactTableTextCardSaid : Prop := Claim7.holds Tryd.pinned (.plain (OpenSpec.ofChange fnExactTableTextSpec)) fnExactTableTextCard

/-- THE TIED CARD OF 'laws.FnShapeText'. -/
def fnShapeTextCard : Claim7 := { stood := { row := fnShapeTextRow, standIns := [], harness := (true, "36366a3c2d1d126760efc77bbd94e1bc48d69b6cd284dbfd14adcc543c02ae6c"), looks := false }, kinds := [], alts := [], laidByText := true, laidKinds := [.data, .data, .data, .widerDeep], laidTests := true, laidLooks := .later }
def FnShapeTextCardSaid : Prop := Claim7.holds Tryd.pinned (.plain (OpenSpec.ofChange fnShapeTextSpec)) fnShapeTextCard

/-- THE SECOND FORM's CARD OF 'laws.FnExactShapesValid'. -/
def fnExactShapesValidUptoCard : Claim7 := { stood := { row := fnExactShapesValidUptoRow, standIns := [], harness := (true, "36366a3c2d1d126760efc77bbd94e1bc48d69b6cd284dbfd14adcc543c02ae6c"), looks := false }, kinds := [], alts := [], laidByText := true, laidKinds := [.widerDeep], laidTests := true, laidLooks := .later }
def FnExactShapesValidUptoCardSaid : Prop := Claim7.holds Tryd.pinned (.plain (OpenSpec.upto fnExactShapesValidSpec)) fnExactShapesValidUptoCard

/-- THE SECOND FORM's CARD OF 'laws.FnExactSameShapes'. -/
def fnExactSameShapesUptoCard : Claim7 := { stood := { row := fnExactSameShapesUptoRow, standIns := [], harness := (true, "36366a3c2d1d126760efc77bbd94e1bc48d69b6cd284dbfd14adcc543c02ae6c"), looks := false }, kinds := [], alts := [], laidByText := true, laidKinds := [.widerDeep], laidTests := true, laidLooks := .later }
def FnExactSameShapesUptoCardSaid : Prop := Claim7.holds Tryd.pinned (.plain (OpenSpec.upto fnExactSameShapesSpec)) fnExactSameShapesUptoCard

/-- THE SECOND FORM's CARD OF 'laws.FnShapesValid'. -/
def fnShapesValidUptoCard : Claim7 := { stood := { row := fnShapesValidUptoRow, standIns := [], harness := (true, "36366a3c2d1d126760efc77bbd94e1bc48d69b6cd284dbfd14adcc543c02ae6c"), looks := false }, kinds := [], alts := [], laidByText := true, laidKinds := [.widerDeep], laidTests := true, laidLooks := .later }
def FnShapesValidUptoCardSaid : Prop := Claim7.holds Tryd.pinned (.plain (OpenSpec.upto fnShapesValidSpec)) fnShapesValidUptoCard

/-- THE SECOND FORM's CARD OF 'laws.FnShapesOf'. -/
def fnShapesOfUptoCard : Claim7 := { stood := { row := fnShapesOfUptoRow, standIns := [], harness := (true, "36366a3c2d1d126760efc77bbd94e1bc48d69b6cd284dbfd14adcc543c02ae6c"), looks := false }, kinds := [], alts := [], laidByText := true, laidKinds := [.widerDeep], laidTests := true, laidLooks := .later }
def FnShapesOfUptoCardSaid : Prop := Claim7.holds Tryd.pinned (.plain (OpenSpec.upto fnShapesOfSpec)) fnShapesOfUptoCard

/-- THE SECOND FORM's CARD OF 'laws.FnShapeRows'. -/
def fnShapeRowsUptoCard : Claim7 := { stood := { row := fnShapeRowsUptoRow, standIns := [], harness := (true, "36366a3c2d1d126760efc77bbd94e1bc48d69b6cd284dbfd14adcc543c02ae6c"), looks := false }, kinds := [], alts := [], laidByText := true, laidKinds := [.widerDeep], laidTests := true, laidLooks := .later }
def FnShapeRowsUptoCardSaid : Prop := Claim7.holds Tryd.pinned (.plain (OpenSpec.upto fnShapeRowsSpec)) fnShapeRowsUptoCard

/-- THE SECOND FORM's CARD OF 'laws.FnSameShapes'. -/
def fnSameShapesUptoCard : Claim7 := { stood := { row := fnSameShapesUptoRow, standIns := [], harness := (true, "36366a3c2d1d126760efc77bbd94e1bc48d69b6cd284dbfd14adcc543c02ae6c"), looks := false }, kinds := [], alts := [], laidByText := true, laidKinds := [.widerDeep], laidTests := true, laidLooks := .later }
def FnSameShapesUptoCardSaid : Prop := Claim7.holds Tryd.pinned (.plain (OpenSpec.upto fnSameShapesSpec)) fnSameShapesUptoCard

/-- THE SECOND FORM's CARD OF 'laws.FnExactShapesOf'. -/
def fnExactShapesOfUptoCard : Claim7 := { stood := { row := fnExactShapesOfUptoRow, standIns := [], harness := (true, "36366a3c2d1d126760efc77bbd94e1bc48d69b6cd284dbfd14adcc543c02ae6c"), looks := false }, kinds := [], alts := [], laidByText := true, laidKinds := [.widerDeep], laidTests := true, laidLooks := .later }
def FnExactShapesOfUptoCardSaid : Prop := Claim7.holds Tryd.pinned (.plain (OpenSpec.upto fnExactShapesOfSpec)) fnExactShapesOfUptoCard

/-- THE SECOND FORM's CARD OF 'laws.FnExactShapeText'. -/
def fnExactShapeTextUptoCard : Claim7 := { stood := { row := fnExactShapeTextUptoRow, standIns := [], harness := (true, "36366a3c2d1d126760efc77bbd94e1bc48d69b6cd284dbfd14adcc543c02ae6c"), looks := false }, kinds := [], alts := [], laidByText := true, laidKinds := [.data, .data, .data, .widerDeep], laidTests := true, laidLooks := .later }
def FnExactShapeTextUptoCardSaid : Prop := Claim7.holds Tryd.pinned (.plain (OpenSpec.upto fnExactShapeTextSpec)) fnExactShapeTextUptoCard

/-- THE SECOND FORM's CARD OF 'laws.FnExactTableText'. -/
def fnExactTableTextUptoCard : Claim7 := { stood := { row := fnExactTableTextUptoRow, standIns := [], harness := (true, "36366a3c2d1d126760efc77bbd94e1bc48d69b6cd284dbfd14adcc543c02ae6c"), looks := false }, kinds := [], alts := [], laidByText := true, laidKinds := [.data, .data, .data, .widerDeep], laidTests := true, laidLooks := .later }
def FnExactTableTextUptoCardSaid : Prop := Claim7.holds Tryd.pinned (.plain (OpenSpec.upto fnExactTableTextSpec)) fnExactTableTextUptoCard

/-- THE SECOND FORM's CARD OF 'laws.FnShapeText'. -/
def fnShapeTextUptoCard : Claim7 := { stood := { row := fnShapeTextUptoRow, standIns := [], harness := (true, "36366a3c2d1d126760efc77bbd94e1bc48d69b6cd284dbfd14adcc543c02ae6c"), looks := false }, kinds := [], alts := [], laidByText := true, laidKinds := [.data, .data, .data, .widerDeep], laidTests := true, laidLooks := .later }
def FnShapeTextUptoCardSaid : Prop := Claim7.holds Tryd.pinned (.plain (OpenSpec.upto fnShapeTextSpec)) fnShapeTextUptoCard
end Rows
end Go.Proofs.YtgdaclbijgcnpaaDoor
