/-
  DERIVED. GIVEN WITH THE SEED: THE CARDS: each row of YthabgnhedmepjaaDoorRows.lean that lists a variable, with what it lists TIED to the program's text (the seventh form; the later family's looks); each row that meets fmt, with fmt's text TOLD by the authors' own Lean function (tested against real Go, not proved from fmt's source: count such statements apart). THE CARD IS WHAT COUNTS. Prove the row's statement (the work); the ties are given (YthabgnhedmepjaaDoorTie.lean); close each card by the builder's one call (the guide's Derived/Test/ToyasCard.lean, 'card_holds'). Laid BY PROGRAM, IN A SANDBOX (cutbox-door.mjs). By AI agents, Wed Nov 11 2026. No macro, syntax, notation, axiom, sorry.
-/
import Derived.Test.YthabgnhedmepjaaDoorRows
import GoSem.ClaimSeven
namespace Go.Proofs.YthabgnhedmepjaaDoor
namespace Rows

/-- THE TIED CARD OF 'laws.FnPairTrace'. -/
def fnPairTraceCard : Claim7 := { stood := { row := fnPairTraceRow, standIns := [], harness := (true, "2ec795395afa96fd28e898ea413ea00d3edd63f6d75aa6ef6487ee31f941dae2"), looks := false }, kinds := [], alts := [], laidByText := true, laidKinds := [.widerDeep], laidTests := true, laidLooks := .later }
def FnPairTraceCardSaid : Prop := Claim7.holds Tryd.pinned (.plain (OpenSpec.ofChange fnPairTraceSpec)) fnPairTraceCard

/-- THE TIED CARD OF 'laws.FnSealKey'. -/
def fnSealKeyCard : Claim7 := { stood := { row := fnSealKeyRow, standIns := [], harness := (true, "2ec795395afa96fd28e898ea413ea00d3edd63f6d75aa6ef6487ee31f941dae2"), looks := false }, kinds := [], alts := [], laidByText := true, laidKinds := [.widerDeep], laidTests := true, laidLooks := .later }
def FnSealKeyCardSaid : Prop := Claim7.holds Tryd.pinned (.plain (OpenSpec.ofChange fnSealKeySpec)) fnSealKeyCard

/-- THE TIED CARD OF 'laws.FnSealRow'. -/
def fnSealRowCard : Claim7 := { stood := { row := fnSealRowRow, standIns := [], harness := (true, "2ec795395afa96fd28e898ea413ea00d3edd63f6d75aa6ef6487ee31f941dae2"), looks := false }, kinds := [], alts := [], laidByText := true, laidKinds := [.widerDeep], laidTests := true, laidLooks := .later }
def FnSealRowCardSaid : Prop := Claim7.holds Tryd.pinned (.plain (OpenSpec.ofChange fnSealRowSpec)) fnSealRowCard

/-- THE TIED CARD OF 'laws.FnNumbersFresh'. -/
def fnNumbersFreshCard : Claim7 := { stood := { row := fnNumbersFreshRow, standIns := [], harness := (true, "2ec795395afa96fd28e898ea413ea00d3edd63f6d75aa6ef6487ee31f941dae2"), looks := false }, kinds := [], alts := [], laidByText := true, laidKinds := [.widerDeep], laidTests := true, laidLooks := .later }
def FnNumbersFreshCardSaid : Prop := Claim7.holds Tryd.pinned (.plain (OpenSpec.ofChange fnNumbersFreshSpec)) fnNumbersFreshCard

/-- THE TIED CARD OF 'laws.FnMemoryValid'. -/
def fnMemoryValidCard : Claim7 := { stood := { row := fnMemoryValidRow, standIns := [], harness := (true, "2ec795395afa96fd28e898ea413ea00d3edd63f6d75aa6ef6487ee31f941dae2"), looks := false }, kinds := [], alts := [], laidByText := true, laidKinds := [.widerDeep], laidTests := true, laidLooks := .later }
def FnMemoryValidCardSaid : Prop := Claim7.holds Tryd.pinned (.plain (OpenSpec.ofChange fnMemoryValidSpec)) fnMemoryValidCard

/-- THE TIED CARD OF 'laws.FnOpenRow'. -/
def fnOpenRowCard : Claim7 := { stood := { row := fnOpenRowRow, standIns := [], harness := (true, "2ec795395afa96fd28e898ea413ea00d3edd63f6d75aa6ef6487ee31f941dae2"), looks := false }, kinds := [], alts := [], laidByText := true, laidKinds := [.widerDeep], laidTests := true, laidLooks := .later }
def FnOpenRowCardSaid : Prop := Claim7.holds Tryd.pinned (.plain (OpenSpec.ofChange fnOpenRowSpec)) fnOpenRowCard

/-- THE TIED CARD OF 'laws.FnExactRowText'. -/
def fnExactRowTextCard : Claim7 := { stood := { row := fnExactRowTextRow, standIns := [], harness := (true, "2ec795395afa96fd28e898ea413ea00d3edd63f6d75aa6ef6487ee31f941dae2"), looks := false }, kinds := [], alts := [], laidByText := true, laidKinds := [.data, .data, .data], laidTests := true, laidLooks := .later }
def FnExactRowTextCardSaid : Prop := Claim7.holds Tryd.pinned (.plain (OpenSpec.ofChange fnExactRowTextSpec)) fnExactRowTextCard

/-- THE SECOND FORM's CARD OF 'laws.FnPairTrace'. -/
def fnPairTraceUptoCard : Claim7 := { stood := { row := fnPairTraceUptoRow, standIns := [], harness := (true, "2ec795395afa96fd28e898ea413ea00d3edd63f6d75aa6ef6487ee31f941dae2"), looks := false }, kinds := [], alts := [], laidByText := true, laidKinds := [.widerDeep], laidTests := true, laidLooks := .later }
def FnPairTraceUptoCardSaid : Prop := Claim7.holds Tryd.pinned (.plain (OpenSpec.upto fnPairTraceSpec)) fnPairTraceUptoCard

/-- THE SECOND FORM's CARD OF 'laws.FnSealKey'. -/
def fnSealKeyUptoCard : Claim7 := { stood := { row := fnSealKeyUptoRow, standIns := [], harness := (true, "2ec795395afa96fd28e898ea413ea00d3edd63f6d75aa6ef6487ee31f941dae2"), looks := false }, kinds := [], alts := [], laidByText := true, laidKinds := [.widerDeep], laidTests := true, laidLooks := .later }
def FnSealKeyUptoCardSaid : Prop := Claim7.holds Tryd.pinned (.plain (OpenSpec.upto fnSealKeySpec)) fnSealKeyUptoCard

/-- THE SECOND FORM's CARD OF 'laws.FnSealRow'. -/
def fnSealRowUptoCard : Claim7 := { stood := { row := fnSealRowUptoRow, standIns := [], harness := (true, "2ec795395afa96fd28e898ea413ea00d3edd63f6d75aa6ef6487ee31f941dae2"), looks := false }, kinds := [], alts := [], laidByText := true, laidKinds := [.widerDeep], laidTests := true, laidLooks := .later }
def FnSealRowUptoCardSaid : Prop := Claim7.holds Tryd.pinned (.plain (OpenSpec.upto fnSealRowSpec)) fnSealRowUptoCard

/-- THE SECOND FORM's CARD OF 'laws.FnNumbersFresh'. -/
def fnNumbersFreshUptoCard : Claim7 := { stood := { row := fnNumbersFreshUptoRow, standIns := [], harness := (true, "2ec795395afa96fd28e898ea413ea00d3edd63f6d75aa6ef6487ee31f941dae2"), looks := false }, kinds := [], alts := [], laidByText := true, laidKinds := [.widerDeep], laidTests := true, laidLooks := .later }
def FnNumbersFreshUptoCardSaid : Prop := Claim7.holds Tryd.pinned (.plain (OpenSpec.upto fnNumbersFreshSpec)) fnNumbersFreshUptoCard

/-- THE SECOND FORM's CARD OF 'laws.FnMemoryValid'. -/
def fnMemoryValidUptoCard : Claim7 := { stood := { row := fnMemoryValidUptoRow, standIns := [], harness := (true, "2ec795395afa96fd28e898ea413ea00d3edd63f6d75aa6ef6487ee31f941dae2"), looks := false }, kinds := [], alts := [], laidByText := true, laidKinds := [.widerDeep], laidTests := true, laidLooks := .later }
def FnMemoryValidUptoCardSaid : Prop := Claim7.holds Tryd.pinned (.plain (OpenSpec.upto fnMemoryValidSpec)) fnMemoryValidUptoCard

/-- THE SECOND FORM's CARD OF 'laws.FnOpenRow'. -/
def fnOpenRowUptoCard : Claim7 := { stood := { row := fnOpenRowUptoRow, standIns := [], harness := (true, "2ec795395afa96fd28e898ea413ea00d3edd63f6d75aa6ef6487ee31f941dae2"), looks := false }, kinds := [], alts := [], laidByText := true, laidKinds := [.widerDeep], laidTests := true, laidLooks := .later }
def FnOpenRowUptoCardSaid : Prop := Claim7.holds Tryd.pinned (.plain (OpenSpec.upto fnOpenRowSpec)) fnOpenRowUptoCard

/-- THE SECOND FORM's CARD OF 'laws.FnExactRowText'. -/
def fnExactRowTextUptoCard : Claim7 := { stood := { row := fnExactRowTextUptoRow, standIns := [], harness := (true, "2ec795395afa96fd28e898ea413ea00d3edd63f6d75aa6ef6487ee31f941dae2"), looks := false }, kinds := [], alts := [], laidByText := true, laidKinds := [.data, .data, .data], laidTests := true, laidLooks := .later }
def FnExactRowTextUptoCardSaid : Prop := Claim7.holds Tryd.pinned (.plain (OpenSpec.upto fnExactRowTextSpec)) fnExactRowTextUptoCard
end Rows
end Go.Proofs.YthabgnhedmepjaaDoor
