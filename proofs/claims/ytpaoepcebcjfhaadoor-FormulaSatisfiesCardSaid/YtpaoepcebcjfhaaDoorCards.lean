/-
  DERIVED. GIVEN WITH THE SEED: THE CARDS: each row of YtpaoepcebcjfhaaDoorRows.lean that lists a variable, with what it lists TIED to the program's text (the seventh form; the later family's looks); each row that meets fmt, with fmt's text TOLD by the authors' own Lean function (tested against real Go, not proved from fmt's source: count such statements apart). THE CARD IS WHAT COUNTS. Prove the row's statement (the work); the ties are given (YtpaoepcebcjfhaaDoorTie.lean); close each card by the builder's one call (the guide's Derived/Test/ToyasCard.lean, 'card_holds'). Laid BY PROGRAM, IN A SANDBOX (cutbox-door.mjs). By AI agents, Wed Nov 11 2026. No macro, syntax, notation, axiom, sorry.
-/
import Derived.Test.YtpaoepcebcjfhaaDoorRows
import GoSem.ClaimSeven
namespace Go.Proofs.YtpaoepcebcjfhaaDoor
namespace Rows

/-- THE TIED CARD OF 'interleavelaw31.FormulaNormal'. -/
def formulaNormalCard : Claim7 := { stood := { row := formulaNormalRow, standIns := [], harness := (true, "1e4a402f80ee60203df5172e2c6070dc5465a4dc61546ad9d0b84901c503ae88"), looks := false }, kinds := [], alts := [], laidByText := true, laidKinds := [.data, .data, .data], laidTests := true, laidLooks := .later }
def FormulaNormalCardSaid : Prop := Claim7.holds Tryd.pinned (.plain (OpenSpec.ofChange formulaNormalSpec)) formulaNormalCard

/-- THE TIED CARD OF 'interleavelaw31.FormulaBounds'. -/
def formulaBoundsCard : Claim7 := { stood := { row := formulaBoundsRow, standIns := [], harness := (true, "1e4a402f80ee60203df5172e2c6070dc5465a4dc61546ad9d0b84901c503ae88"), looks := false }, kinds := [], alts := [], laidByText := true, laidKinds := [.data, .data, .data], laidTests := true, laidLooks := .later }
def FormulaBoundsCardSaid : Prop := Claim7.holds Tryd.pinned (.plain (OpenSpec.ofChange formulaBoundsSpec)) formulaBoundsCard

/-- THE TIED CARD OF 'interleavelaw31.FormulaOpposite'. -/
def formulaOppositeCard : Claim7 := { stood := { row := formulaOppositeRow, standIns := [], harness := (true, "1e4a402f80ee60203df5172e2c6070dc5465a4dc61546ad9d0b84901c503ae88"), looks := false }, kinds := [], alts := [], laidByText := true, laidKinds := [.data, .data, .data], laidTests := true, laidLooks := .later }
def FormulaOppositeCardSaid : Prop := Claim7.holds Tryd.pinned (.plain (OpenSpec.ofChange formulaOppositeSpec)) formulaOppositeCard

/-- THE TIED CARD OF 'interleavelaw31.FormulaFormats'. -/
def formulaFormatsCard : Claim7 := { stood := { row := formulaFormatsRow, standIns := [], harness := (true, "1e4a402f80ee60203df5172e2c6070dc5465a4dc61546ad9d0b84901c503ae88"), looks := false }, kinds := [], alts := [], laidByText := true, laidKinds := [.data, .data, .data], laidTests := true, laidLooks := .later }
def FormulaFormatsCardSaid : Prop := Claim7.holds Tryd.pinned (.plain (OpenSpec.ofChange formulaFormatsSpec)) formulaFormatsCard

/-- THE TIED CARD OF 'interleavelaw31.FormulaMeans'. -/
def formulaMeansCard : Claim7 := { stood := { row := formulaMeansRow, standIns := [], harness := (true, "1e4a402f80ee60203df5172e2c6070dc5465a4dc61546ad9d0b84901c503ae88"), looks := false }, kinds := [], alts := [], laidByText := true, laidKinds := [.data, .data, .data], laidTests := true, laidLooks := .later }
def FormulaMeansCardSaid : Prop := Claim7.holds Tryd.pinned (.plain (OpenSpec.ofChange formulaMeansSpec)) formulaMeansCard

/-- THE TIED CARD OF 'interleavelaw31.FormulaHolds'. -/
def formulaHoldsCard : Claim7 := { stood := { row := formulaHoldsRow, standIns := [], harness := (true, "1e4a402f80ee60203df5172e2c6070dc5465a4dc61546ad9d0b84901c503ae88"), looks := false }, kinds := [], alts := [], laidByText := true, laidKinds := [.data, .data, .data], laidTests := true, laidLooks := .later }
def FormulaHoldsCardSaid : Prop := Claim7.holds Tryd.pinned (.plain (OpenSpec.ofChange formulaHoldsSpec)) formulaHoldsCard

/-- THE TIED CARD OF 'interleavelaw31.FormulaValid'. -/
def formulaValidCard : Claim7 := { stood := { row := formulaValidRow, standIns := [], harness := (true, "1e4a402f80ee60203df5172e2c6070dc5465a4dc61546ad9d0b84901c503ae88"), looks := false }, kinds := [], alts := [], laidByText := true, laidKinds := [.data, .data, .data], laidTests := true, laidLooks := .later }
def FormulaValidCardSaid : Prop := Claim7.holds Tryd.pinned (.plain (OpenSpec.ofChange formulaValidSpec)) formulaValidCard

/-- THE TIED CARD OF 'interleavelaw31.FormulaLimits'. -/
def formulaLimitsCard : Claim7 := { stood := { row := formulaLimitsRow, standIns := [], harness := (true, "1e4a402f80ee60203df5172e2c6070dc5465a4dc61546ad9d0b84901c503ae88"), looks := false }, kinds := [], alts := [], laidByText := true, laidKinds := [.data, .data, .data], laidTests := true, laidLooks := .later }
def FormulaLimitsCardSaid : Prop := Claim7.holds Tryd.pinned (.plain (OpenSpec.ofChange formulaLimitsSpec)) formulaLimitsCard

/-- THE TIED CARD OF 'interleavelaw31.FormulaClauses'. -/
def formulaClausesCard : Claim7 := { stood := { row := formulaClausesRow, standIns := [], harness := (true, "1e4a402f80ee60203df5172e2c6070dc5465a4dc61546ad9d0b84901c503ae88"), looks := false }, kinds := [], alts := [], laidByText := true, laidKinds := [.data, .data, .data], laidTests := true, laidLooks := .later }
def FormulaClausesCardSaid : Prop := Claim7.holds Tryd.pinned (.plain (OpenSpec.ofChange formulaClausesSpec)) formulaClausesCard

/-- THE TIED CARD OF 'interleavelaw31.FormulaSatisfies'. -/
def formulaSatisfiesCard : Claim7 := { stood := { row := formulaSatisfiesRow, standIns := [], harness := (true, "1e4a402f80ee60203df5172e2c6070dc5465a4dc61546ad9d0b84901c503ae88"), looks := false }, kinds := [], alts := [], laidByText := true, laidKinds := [.data, .data, .data], laidTests := true, laidLooks := .later }
def FormulaSatisfiesCardSaid : Prop := Claim7.holds Tryd.pinned (.plain (OpenSpec.ofChange formulaSatisfiesSpec)) formulaSatisfiesCard

/-- THE TIED CARD OF 'interleavelaw31.FormulaModels'. -/
def formulaModelsCard : Claim7 := { stood := { row := formulaModelsRow, standIns := [], harness := (true, "1e4a402f80ee60203df5172e2c6070dc5465a4dc61546ad9d0b84901c503ae88"), looks := false }, kinds := [], alts := [], laidByText := true, laidKinds := [.data, .data, .data], laidTests := true, laidLooks := .later }
def FormulaModelsCardSaid : Prop := Claim7.holds Tryd.pinned (.plain (OpenSpec.ofChange formulaModelsSpec)) formulaModelsCard

/-- THE SECOND FORM's CARD OF 'interleavelaw31.FormulaNormal'. -/
def formulaNormalUptoCard : Claim7 := { stood := { row := formulaNormalUptoRow, standIns := [], harness := (true, "1e4a402f80ee60203df5172e2c6070dc5465a4dc61546ad9d0b84901c503ae88"), looks := false }, kinds := [], alts := [], laidByText := true, laidKinds := [.data, .data, .data], laidTests := true, laidLooks := .later }
def FormulaNormalUptoCardSaid : Prop := Claim7.holds Tryd.pinned (.plain (OpenSpec.upto formulaNormalSpec)) formulaNormalUptoCard

/-- THE SECOND FORM's CARD OF 'interleavelaw31.FormulaBounds'. -/
def formulaBoundsUptoCard : Claim7 := { stood := { row := formulaBoundsUptoRow, standIns := [], harness := (true, "1e4a402f80ee60203df5172e2c6070dc5465a4dc61546ad9d0b84901c503ae88"), looks := false }, kinds := [], alts := [], laidByText := true, laidKinds := [.data, .data, .data], laidTests := true, laidLooks := .later }
def FormulaBoundsUptoCardSaid : Prop := Claim7.holds Tryd.pinned (.plain (OpenSpec.upto formulaBoundsSpec)) formulaBoundsUptoCard

/-- THE SECOND FORM's CARD OF 'interleavelaw31.FormulaOpposite'. -/
def formulaOppositeUptoCard : Claim7 := { stood := { row := formulaOppositeUptoRow, standIns := [], harness := (true, "1e4a402f80ee60203df5172e2c6070dc5465a4dc61546ad9d0b84901c503ae88"), looks := false }, kinds := [], alts := [], laidByText := true, laidKinds := [.data, .data, .data], laidTests := true, laidLooks := .later }
def FormulaOppositeUptoCardSaid : Prop := Claim7.holds Tryd.pinned (.plain (OpenSpec.upto formulaOppositeSpec)) formulaOppositeUptoCard

/-- THE SECOND FORM's CARD OF 'interleavelaw31.FormulaFormats'. -/
def formulaFormatsUptoCard : Claim7 := { stood := { row := formulaFormatsUptoRow, standIns := [], harness := (true, "1e4a402f80ee60203df5172e2c6070dc5465a4dc61546ad9d0b84901c503ae88"), looks := false }, kinds := [], alts := [], laidByText := true, laidKinds := [.data, .data, .data], laidTests := true, laidLooks := .later }
def FormulaFormatsUptoCardSaid : Prop := Claim7.holds Tryd.pinned (.plain (OpenSpec.upto formulaFormatsSpec)) formulaFormatsUptoCard

/-- THE SECOND FORM's CARD OF 'interleavelaw31.FormulaMeans'. -/
def formulaMeansUptoCard : Claim7 := { stood := { row := formulaMeansUptoRow, standIns := [], harness := (true, "1e4a402f80ee60203df5172e2c6070dc5465a4dc61546ad9d0b84901c503ae88"), looks := false }, kinds := [], alts := [], laidByText := true, laidKinds := [.data, .data, .data], laidTests := true, laidLooks := .later }
def FormulaMeansUptoCardSaid : Prop := Claim7.holds Tryd.pinned (.plain (OpenSpec.upto formulaMeansSpec)) formulaMeansUptoCard

/-- THE SECOND FORM's CARD OF 'interleavelaw31.FormulaHolds'. -/
def formulaHoldsUptoCard : Claim7 := { stood := { row := formulaHoldsUptoRow, standIns := [], harness := (true, "1e4a402f80ee60203df5172e2c6070dc5465a4dc61546ad9d0b84901c503ae88"), looks := false }, kinds := [], alts := [], laidByText := true, laidKinds := [.data, .data, .data], laidTests := true, laidLooks := .later }
def FormulaHoldsUptoCardSaid : Prop := Claim7.holds Tryd.pinned (.plain (OpenSpec.upto formulaHoldsSpec)) formulaHoldsUptoCard

/-- THE SECOND FORM's CARD OF 'interleavelaw31.FormulaValid'. -/
def formulaValidUptoCard : Claim7 := { stood := { row := formulaValidUptoRow, standIns := [], harness := (true, "1e4a402f80ee60203df5172e2c6070dc5465a4dc61546ad9d0b84901c503ae88"), looks := false }, kinds := [], alts := [], laidByText := true, laidKinds := [.data, .data, .data], laidTests := true, laidLooks := .later }
def FormulaValidUptoCardSaid : Prop := Claim7.holds Tryd.pinned (.plain (OpenSpec.upto formulaValidSpec)) formulaValidUptoCard

/-- THE SECOND FORM's CARD OF 'interleavelaw31.FormulaLimits'. -/
def formulaLimitsUptoCard : Claim7 := { stood := { row := formulaLimitsUptoRow, standIns := [], harness := (true, "1e4a402f80ee60203df5172e2c6070dc5465a4dc61546ad9d0b84901c503ae88"), looks := false }, kinds := [], alts := [], laidByText := true, laidKinds := [.data, .data, .data], laidTests := true, laidLooks := .later }
def FormulaLimitsUptoCardSaid : Prop := Claim7.holds Tryd.pinned (.plain (OpenSpec.upto formulaLimitsSpec)) formulaLimitsUptoCard

/-- THE SECOND FORM's CARD OF 'interleavelaw31.FormulaClauses'. -/
def formulaClausesUptoCard : Claim7 := { stood := { row := formulaClausesUptoRow, standIns := [], harness := (true, "1e4a402f80ee60203df5172e2c6070dc5465a4dc61546ad9d0b84901c503ae88"), looks := false }, kinds := [], alts := [], laidByText := true, laidKinds := [.data, .data, .data], laidTests := true, laidLooks := .later }
def FormulaClausesUptoCardSaid : Prop := Claim7.holds Tryd.pinned (.plain (OpenSpec.upto formulaClausesSpec)) formulaClausesUptoCard

/-- THE SECOND FORM's CARD OF 'interleavelaw31.FormulaSatisfies'. -/
def formulaSatisfiesUptoCard : Claim7 := { stood := { row := formulaSatisfiesUptoRow, standIns := [], harness := (true, "1e4a402f80ee60203df5172e2c6070dc5465a4dc61546ad9d0b84901c503ae88"), looks := false }, kinds := [], alts := [], laidByText := true, laidKinds := [.data, .data, .data], laidTests := true, laidLooks := .later }
def FormulaSatisfiesUptoCardSaid : Prop := Claim7.holds Tryd.pinned (.plain (OpenSpec.upto formulaSatisfiesSpec)) formulaSatisfiesUptoCard

/-- THE SECOND FORM's CARD OF 'interleavelaw31.FormulaModels'. -/
def formulaModelsUptoCard : Claim7 := { stood := { row := formulaModelsUptoRow, standIns := [], harness := (true, "1e4a402f80ee60203df5172e2c6070dc5465a4dc61546ad9d0b84901c503ae88"), looks := false }, kinds := [], alts := [], laidByText := true, laidKinds := [.data, .data, .data], laidTests := true, laidLooks := .later }
def FormulaModelsUptoCardSaid : Prop := Claim7.holds Tryd.pinned (.plain (OpenSpec.upto formulaModelsSpec)) formulaModelsUptoCard
end Rows
end Go.Proofs.YtpaoepcebcjfhaaDoor
