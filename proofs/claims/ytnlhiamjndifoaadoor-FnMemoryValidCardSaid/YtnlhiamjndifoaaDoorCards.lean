/-
  DERIVED. GIVEN WITH THE SEED: THE CARDS: each row of YtnlhiamjndifoaaDoorRows.lean that lists a variable, with what it lists TIED to the program's text (the seventh form; the later family's looks); each row that meets fmt, with fmt's text TOLD by the authors' own Lean function (tested against real Go, not proved from fmt's source: count such statements apart). THE CARD IS WHAT COUNTS. Prove the row's statement (the work); the ties are given (YtnlhiamjndifoaaDoorTie.lean); close each card by the builder's one call (the guide's Derived/Test/ToyasCard.lean, 'card_holds'). Laid BY PROGRAM, IN A SANDBOX (cutbox-door.mjs). By AI agents, Wed Nov 11 2026. No macro, syntax, notation, axiom, sorry.
-/
import Derived.Test.YtnlhiamjndifoaaDoorRows
import GoSem.ClaimSeven
namespace Go.Proofs.YtnlhiamjndifoaaDoor
namespace Rows

/-- THE TIED CARD OF 'laws.FnMemoryValid'. -/
def fnMemoryValidCard : Claim7 := { stood := { row := fnMemoryValidRow, standIns := [], harness := (true, "290c87e06c16853542078f10cd557d7b2b79e1b360f6c850a3295d1578e8ce5c"), looks := false }, kinds := [], alts := [], laidByText := true, laidKinds := [.widerDeep], laidTests := true, laidLooks := .later }
def FnMemoryValidCardSaid : Prop := Claim7.holds Tryd.pinned (.plain (OpenSpec.ofChange fnMemoryValidSpec)) fnMemoryValidCard

/-- THE SECOND FORM's CARD OF 'laws.FnMemoryValid'. -/
def fnMemoryValidUptoCard : Claim7 := { stood := { row := fnMemoryValidUptoRow, standIns := [], harness := (true, "290c87e06c16853542078f10cd557d7b2b79e1b360f6c850a3295d1578e8ce5c"), looks := false }, kinds := [], alts := [], laidByText := true, laidKinds := [.widerDeep], laidTests := true, laidLooks := .later }
def FnMemoryValidUptoCardSaid : Prop := Claim7.holds Tryd.pinned (.plain (OpenSpec.upto fnMemoryValidSpec)) fnMemoryValidUptoCard
end Rows
end Go.Proofs.YtnlhiamjndifoaaDoor
