/-
  DERIVED. GIVEN WITH THE SEED: THE CARDS: each row of YteafnieapifnnaaDoorRows.lean that lists a variable, with what it lists TIED to the program's text (the seventh form; the later family's looks); each row that meets fmt, with fmt's text TOLD by the authors' own Lean function (tested against real Go, not proved from fmt's source: count such statements apart). THE CARD IS WHAT COUNTS. Prove the row's statement (the work); the ties are given (YteafnieapifnnaaDoorTie.lean); close each card by the builder's one call (the guide's Derived/Test/ToyasCard.lean, 'card_holds'). Laid BY PROGRAM, IN A SANDBOX (cutbox-door.mjs). By AI agents, Wed Nov 11 2026. No macro, syntax, notation, axiom, sorry.
-/
import Derived.Test.YteafnieapifnnaaDoorRows
import GoSem.ClaimSeven
namespace Go.Proofs.YteafnieapifnnaaDoor
namespace Rows

/-- THE TIED CARD OF 'laws.FnShapesOf'. -/
def fnShapesOfCard : Claim7 := { stood := { row := fnShapesOfRow, standIns := [], harness := (true, "9a192deec120a17eeef9754482bf91f24fb8a33d2260d89b9ab17a067065850d"), looks := false }, kinds := [], alts := [], laidByText := true, laidKinds := [.widerDeep], laidTests := true, laidLooks := .later }
def FnShapesOfCardSaid : Prop := Claim7.holds Tryd.pinned (.plain (OpenSpec.ofChange fnShapesOfSpec)) fnShapesOfCard

/-- THE TIED CARD OF 'laws.FnShapeRows'. -/
def fnShapeRowsCard : Claim7 := { stood := { row := fnShapeRowsRow, standIns := [], harness := (true, "9a192deec120a17eeef9754482bf91f24fb8a33d2260d89b9ab17a067065850d"), looks := false }, kinds := [], alts := [], laidByText := true, laidKinds := [.widerDeep], laidTests := true, laidLooks := .later }
def FnShapeRowsCardSaid : Prop := Claim7.holds Tryd.pinned (.plain (OpenSpec.ofChange fnShapeRowsSpec)) fnShapeRowsCard

/-- THE TIED CARD OF 'laws.FnExactRowText'. -/
def fnExactRowTextCard : Claim7 := { stood := { row := fnExactRowTextRow, standIns := [], harness := (true, "9a192deec120a17eeef9754482bf91f24fb8a33d2260d89b9ab17a067065850d"), looks := false }, kinds := [], alts := [], laidByText := true, laidKinds := [.data, .data, .data], laidTests := true, laidLooks := .later }
def FnExactRowTextCardSaid : Prop := Claim7.holds Tryd.pinned (.plain (OpenSpec.ofChange fnExactRowTextSpec)) fnExactRowTextCard

/-- THE TIED CARD OF 'laws.FnExactShapeText'. -/
def fnExactShapeTextCard : Claim7 := { stood := { row := fnExactShapeTextRow, standIns := [], harness := (true, "9a192deec120a17eeef9754482bf91f24fb8a33d2260d89b9ab17a067065850d"), looks := false }, kinds := [], alts := [], laidByText := true, laidKinds := [.data, .data, .data, .widerDeep], laidTests := true, laidLooks := .later }
def FnExactShapeTextCardSaid : Prop := Claim7.holds Tryd.pinned (.plain (OpenSpec.ofChange fnExactShapeTextSpec)) fnExactShapeTextCard

/-- THE TIED CARD OF 'laws.FnExactTableText'. -/
def fnExactTableTextCard : Claim7 := { stood := { row := fnExactTableTextRow, standIns := [], harness := (true, "9a192deec120a17eeef9754482bf91f24fb8a33d2260d89b9ab17a067065850d"), looks := false }, kinds := [], alts := [], laidByText := true, laidKinds := [.data, .data, .data, .widerDeep], laidTests := true, laidLooks := .later }
def FnExactTableTextCardSaid : Prop := Claim7.holds Tryd.pinned (.plain (OpenSpec.ofChange fnExactTableTextSpec)) fnExactTableTextCard

/-- THE TIED CARD OF 'laws.FnShapeText'. -/
def fnShapeTextCard : Claim7 := { stood := { row := fnShapeTextRow, standIns := [], harness := (true, "9a192deec120a17eeef9754482bf91f24fb8a33d2260d89b9ab17a067065850d"), looks := false }, kinds := [], alts := [], laidByText := true, laidKinds := [.data, .data, .data, .widerDeep], laidTests := true, laidLooks := .later }
def FnShapeTextCardSaid : Prop := Claim7.holds Tryd.pinned (.plain (OpenSpec.ofChange fnShapeTextSpec)) fnShapeTextCard

/-- THE SECOND FORM's CARD OF 'laws.FnShapesOf'. -/
def fnShapesOfUptoCard : Claim7 := { stood := { row := fnShapesOfUptoRow, standIns := [], harness := (true, "9a192deec120a17eeef9754482bf91f24fb8a33d2260d89b9ab17a067065850d"), looks := false }, kinds := [], alts := [], laidByText := true, laidKinds := [.widerDeep], laidTests := true, laidLooks := .later }
def FnShapesOfUptoCardSaid : Prop := Claim7.holds Tryd.pinned (.plain (OpenSpec.upto fnShapesOfSpec)) fnShapesOfUptoCard

/-- THE SECOND FORM's CARD OF 'laws.FnShapeRows'. -/
def fnShapeRowsUptoCard : Claim7 := { stood := { row := fnShapeRowsUptoRow, standIns := [], harness := (true, "9a192deec120a17eeef9754482bf91f24fb8a33d2260d89b9ab17a067065850d"), looks := false }, kinds := [], alts := [], laidByText := true, laidKinds := [.widerDeep], laidTests := true, laidLooks := .later }
def FnShapeRowsUptoCardSaid : Prop := Claim7.holds Tryd.pinned (.plain (OpenSpec.upto fnShapeRowsSpec)) fnShapeRowsUptoCard

/-- THE SECOND FORM's CARD OF 'laws.FnExactRowText'. -/
def fnExactRowTextUptoCard : Claim7 := { stood := { row := fnExactRowTextUptoRow, standIns := [], harness := (true, "9a192deec120a17eeef9754482bf91f24fb8a33d2260d89b9ab17a067065850d"), looks := false }, kinds := [], alts := [], laidByText := true, laidKinds := [.data, .data, .data], laidTests := true, laidLooks := .later }
def FnExactRowTextUptoCardSaid : Prop := Claim7.holds Tryd.pinned (.plain (OpenSpec.upto fnExactRowTextSpec)) fnExactRowTextUptoCard

/-- THE SECOND FORM's CARD OF 'laws.FnExactShapeText'. -/
def fnExactShapeTextUptoCard : Claim7 := { stood := { row := fnExactShapeTextUptoRow, standIns := [], harness := (true, "9a192deec120a17eeef9754482bf91f24fb8a33d2260d89b9ab17a067065850d"), looks := false }, kinds := [], alts := [], laidByText := true, laidKinds := [.data, .data, .data, .widerDeep], laidTests := true, laidLooks := .later }
def FnExactShapeTextUptoCardSaid : Prop := Claim7.holds Tryd.pinned (.plain (OpenSpec.upto fnExactShapeTextSpec)) fnExactShapeTextUptoCard

/-- THE SECOND FORM's CARD OF 'laws.FnExactTableText'. -/
def fnExactTableTextUptoCard : Claim7 := { stood := { row := fnExactTableTextUptoRow, standIns := [], harness := (true, "9a192deec120a17eeef9754482bf91f24fb8a33d2260d89b9ab17a067065850d"), looks := false }, kinds := [], alts := [], laidByText := true, laidKinds := [.data, .data, .data, .widerDeep], laidTests := true, laidLooks := .later }
def FnExactTableTextUptoCardSaid : Prop := Claim7.holds Tryd.pinned (.plain (OpenSpec.upto fnExactTableTextSpec)) fnExactTableTextUptoCard

/-- THE SECOND FORM's CARD OF 'laws.FnShapeText'. -/
def fnShapeTextUptoCard : Claim7 := { stood := { row := fnShapeTextUptoRow, standIns := [], harness := (true, "9a192deec120a17eeef9754482bf91f24fb8a33d2260d89b9ab17a067065850d"), looks := false }, kinds := [], alts := [], laidByText := true, laidKinds := [.data, .data, .data, .widerDeep], laidTests := true, laidLooks := .later }
def FnShapeTextUptoCardSaid : Prop := Claim7.holds Tryd.pinned (.plain (OpenSpec.upto fnShapeTextSpec)) fnShapeTextUptoCard
end Rows
end Go.Proofs.YteafnieapifnnaaDoor
