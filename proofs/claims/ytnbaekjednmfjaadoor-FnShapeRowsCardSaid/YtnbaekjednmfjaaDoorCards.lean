/-
  DERIVED. GIVEN WITH THE SEED: THE CARDS: each row of YtnbaekjednmfjaaDoorRows.lean that lists a variable, with what it lists TIED to the program's text (the seventh form; the later family's looks); each row that meets fmt, with fmt's text TOLD by the authors' own Lean function (tested against real Go, not proved from fmt's source: count such statements apart). THE CARD IS WHAT COUNTS. Prove the row's statement (the work); the ties are given (YtnbaekjednmfjaaDoorTie.lean); close each card by the builder's one call (the guide's Derived/Test/ToyasCard.lean, 'card_holds'). Laid BY PROGRAM, IN A SANDBOX (cutbox-door.mjs). By AI agents, Wed Nov 11 2026. No macro, syntax, notation, axiom, sorry.
-/
import Derived.Test.YtnbaekjednmfjaaDoorRows
import GoSem.ClaimSeven
namespace Go.Proofs.YtnbaekjednmfjaaDoor
namespace Rows

/-- THE TIED CARD OF 'laws.FnShapesOf'. -/
def fnShapesOfCard : Claim7 := { stood := { row := fnShapesOfRow, standIns := [], harness := (true, "560254b42e508d59d0360d4e6bf3225e2fd6a06977a88f5065f445816a91793f"), looks := false }, kinds := [], alts := [], laidByText := true, laidKinds := [.widerDeep], laidTests := true, laidLooks := .later }
def FnShapesOfCardSaid : Prop := Claim7.holds Tryd.pinned (.plain (OpenSpec.ofChange fnShapesOfSpec)) fnShapesOfCard

/-- THE TIED CARD OF 'laws.FnShapeRows'. -/
def fnShapeRowsCard : Claim7 := { stood := { row := fnShapeRowsRow, standIns := [], harness := (true, "560254b42e508d59d0360d4e6bf3225e2fd6a06977a88f5065f445816a91793f"), looks := false }, kinds := [], alts := [], laidByText := true, laidKinds := [.widerDeep], laidTests := true, laidLooks := .later }
def FnShapeRowsCardSaid : Prop := Claim7.holds Tryd.pinned (.plain (OpenSpec.ofChange fnShapeRowsSpec)) fnShapeRowsCard

/-- THE SECOND FORM's CARD OF 'laws.FnShapesOf'. -/
def fnShapesOfUptoCard : Claim7 := { stood := { row := fnShapesOfUptoRow, standIns := [], harness := (true, "560254b42e508d59d0360d4e6bf3225e2fd6a06977a88f5065f445816a91793f"), looks := false }, kinds := [], alts := [], laidByText := true, laidKinds := [.widerDeep], laidTests := true, laidLooks := .later }
def FnShapesOfUptoCardSaid : Prop := Claim7.holds Tryd.pinned (.plain (OpenSpec.upto fnShapesOfSpec)) fnShapesOfUptoCard

/-- THE SECOND FORM's CARD OF 'laws.FnShapeRows'. -/
def fnShapeRowsUptoCard : Claim7 := { stood := { row := fnShapeRowsUptoRow, standIns := [], harness := (true, "560254b42e508d59d0360d4e6bf3225e2fd6a06977a88f5065f445816a91793f"), looks := false }, kinds := [], alts := [], laidByText := true, laidKinds := [.widerDeep], laidTests := true, laidLooks := .later }
def FnShapeRowsUptoCardSaid : Prop := Claim7.holds Tryd.pinned (.plain (OpenSpec.upto fnShapeRowsSpec)) fnShapeRowsUptoCard
end Rows
end Go.Proofs.YtnbaekjednmfjaaDoor
