/-
  DERIVED. GIVEN WITH THE SEED: THE CARDS: each row of YtdkloonoeklgaaaDoorRows.lean that lists a variable, with what it lists TIED to the program's text (the seventh form; the later family's looks); each row that meets fmt, with fmt's text TOLD by the authors' own Lean function (tested against real Go, not proved from fmt's source: count such statements apart). THE CARD IS WHAT COUNTS. Prove the row's statement (the work); the ties are given (YtdkloonoeklgaaaDoorTie.lean); close each card by the builder's one call (the guide's Derived/Test/ToyasCard.lean, 'card_holds'). Laid BY PROGRAM, IN A SANDBOX (cutbox-door.mjs). By AI agents, Wed Nov 11 2026. No macro, syntax, notation, axiom, sorry.
-/
import Derived.Test.YtdkloonoeklgaaaDoorRows
import GoSem.ClaimSeven
namespace Go.Proofs.YtdkloonoeklgaaaDoor
namespace Rows

/-- THE TIED CARD OF 'interleavelaw01.TokenNumbers'. -/
def tokenNumbersCard : Claim7 := { stood := { row := tokenNumbersRow, standIns := [], harness := (true, "784640cac34f25dd9f76009c2d323e8ebaa5251fb64e7eea6559603a462185b7"), looks := true }, kinds := [], alts := [], laidByText := true, laidKinds := [.data, .data, .data, .sentinel, .sentinel], laidTests := true, laidLooks := .later }
def TokenNumbersCardSaid : Prop := Claim7.holds Tryd.pinned (.plain (OpenSpec.ofChange tokenNumbersSpec)) tokenNumbersCard

/-- THE TIED CARD OF 'interleavelaw01.TokenScans'. -/
def tokenScansCard : Claim7 := { stood := { row := tokenScansRow, standIns := [], harness := (true, "784640cac34f25dd9f76009c2d323e8ebaa5251fb64e7eea6559603a462185b7"), looks := true }, kinds := [], alts := [], laidByText := true, laidKinds := [.data, .data, .data, .sentinel, .sentinel], laidTests := true, laidLooks := .later }
def TokenScansCardSaid : Prop := Claim7.holds Tryd.pinned (.plain (OpenSpec.ofChange tokenScansSpec)) tokenScansCard

/-- THE TIED CARD OF 'interleavelaw01.TokenWords'. -/
def tokenWordsCard : Claim7 := { stood := { row := tokenWordsRow, standIns := [], harness := (true, "784640cac34f25dd9f76009c2d323e8ebaa5251fb64e7eea6559603a462185b7"), looks := true }, kinds := [], alts := [], laidByText := true, laidKinds := [.data, .data, .data, .sentinel, .sentinel], laidTests := true, laidLooks := .later }
def TokenWordsCardSaid : Prop := Claim7.holds Tryd.pinned (.plain (OpenSpec.ofChange tokenWordsSpec)) tokenWordsCard

/-- THE TIED CARD OF 'interleavelaw01.TokenBlanks'. -/
def tokenBlanksCard : Claim7 := { stood := { row := tokenBlanksRow, standIns := [], harness := (true, "784640cac34f25dd9f76009c2d323e8ebaa5251fb64e7eea6559603a462185b7"), looks := true }, kinds := [], alts := [], laidByText := true, laidKinds := [.data, .data, .data, .sentinel, .sentinel], laidTests := true, laidLooks := .later }
def TokenBlanksCardSaid : Prop := Claim7.holds Tryd.pinned (.plain (OpenSpec.ofChange tokenBlanksSpec)) tokenBlanksCard

/-- THE TIED CARD OF 'interleavelaw01.TokenLines'. -/
def tokenLinesCard : Claim7 := { stood := { row := tokenLinesRow, standIns := [], harness := (true, "784640cac34f25dd9f76009c2d323e8ebaa5251fb64e7eea6559603a462185b7"), looks := true }, kinds := [], alts := [], laidByText := true, laidKinds := [.data, .data, .data, .sentinel, .sentinel], laidTests := true, laidLooks := .later }
def TokenLinesCardSaid : Prop := Claim7.holds Tryd.pinned (.plain (OpenSpec.ofChange tokenLinesSpec)) tokenLinesCard

/-- THE TIED CARD OF 'interleavelaw01.TokenComments'. -/
def tokenCommentsCard : Claim7 := { stood := { row := tokenCommentsRow, standIns := [], harness := (true, "784640cac34f25dd9f76009c2d323e8ebaa5251fb64e7eea6559603a462185b7"), looks := true }, kinds := [], alts := [], laidByText := true, laidKinds := [.data, .data, .data, .sentinel, .sentinel], laidTests := true, laidLooks := .later }
def TokenCommentsCardSaid : Prop := Claim7.holds Tryd.pinned (.plain (OpenSpec.ofChange tokenCommentsSpec)) tokenCommentsCard

/-- THE TIED CARD OF 'interleavelaw01.TokenSigns'. -/
def tokenSignsCard : Claim7 := { stood := { row := tokenSignsRow, standIns := [], harness := (true, "784640cac34f25dd9f76009c2d323e8ebaa5251fb64e7eea6559603a462185b7"), looks := true }, kinds := [], alts := [], laidByText := true, laidKinds := [.data, .data, .data, .sentinel, .sentinel], laidTests := true, laidLooks := .later }
def TokenSignsCardSaid : Prop := Claim7.holds Tryd.pinned (.plain (OpenSpec.ofChange tokenSignsSpec)) tokenSignsCard

/-- THE TIED CARD OF 'interleavelaw01.TokenLength'. -/
def tokenLengthCard : Claim7 := { stood := { row := tokenLengthRow, standIns := [], harness := (true, "784640cac34f25dd9f76009c2d323e8ebaa5251fb64e7eea6559603a462185b7"), looks := true }, kinds := [], alts := [], laidByText := true, laidKinds := [.data, .data, .data, .sentinel, .sentinel], laidTests := true, laidLooks := .later }
def TokenLengthCardSaid : Prop := Claim7.holds Tryd.pinned (.plain (OpenSpec.ofChange tokenLengthSpec)) tokenLengthCard

/-- THE SECOND FORM's CARD OF 'interleavelaw01.TokenNumbers'. -/
def tokenNumbersUptoCard : Claim7 := { stood := { row := tokenNumbersUptoRow, standIns := [], harness := (true, "784640cac34f25dd9f76009c2d323e8ebaa5251fb64e7eea6559603a462185b7"), looks := true }, kinds := [], alts := [], laidByText := true, laidKinds := [.data, .data, .data, .sentinel, .sentinel], laidTests := true, laidLooks := .later }
def TokenNumbersUptoCardSaid : Prop := Claim7.holds Tryd.pinned (.plain (OpenSpec.upto tokenNumbersSpec)) tokenNumbersUptoCard

/-- THE SECOND FORM's CARD OF 'interleavelaw01.TokenScans'. -/
def tokenScansUptoCard : Claim7 := { stood := { row := tokenScansUptoRow, standIns := [], harness := (true, "784640cac34f25dd9f76009c2d323e8ebaa5251fb64e7eea6559603a462185b7"), looks := true }, kinds := [], alts := [], laidByText := true, laidKinds := [.data, .data, .data, .sentinel, .sentinel], laidTests := true, laidLooks := .later }
def TokenScansUptoCardSaid : Prop := Claim7.holds Tryd.pinned (.plain (OpenSpec.upto tokenScansSpec)) tokenScansUptoCard

/-- THE SECOND FORM's CARD OF 'interleavelaw01.TokenWords'. -/
def tokenWordsUptoCard : Claim7 := { stood := { row := tokenWordsUptoRow, standIns := [], harness := (true, "784640cac34f25dd9f76009c2d323e8ebaa5251fb64e7eea6559603a462185b7"), looks := true }, kinds := [], alts := [], laidByText := true, laidKinds := [.data, .data, .data, .sentinel, .sentinel], laidTests := true, laidLooks := .later }
def TokenWordsUptoCardSaid : Prop := Claim7.holds Tryd.pinned (.plain (OpenSpec.upto tokenWordsSpec)) tokenWordsUptoCard

/-- THE SECOND FORM's CARD OF 'interleavelaw01.TokenBlanks'. -/
def tokenBlanksUptoCard : Claim7 := { stood := { row := tokenBlanksUptoRow, standIns := [], harness := (true, "784640cac34f25dd9f76009c2d323e8ebaa5251fb64e7eea6559603a462185b7"), looks := true }, kinds := [], alts := [], laidByText := true, laidKinds := [.data, .data, .data, .sentinel, .sentinel], laidTests := true, laidLooks := .later }
def TokenBlanksUptoCardSaid : Prop := Claim7.holds Tryd.pinned (.plain (OpenSpec.upto tokenBlanksSpec)) tokenBlanksUptoCard

/-- THE SECOND FORM's CARD OF 'interleavelaw01.TokenLines'. -/
def tokenLinesUptoCard : Claim7 := { stood := { row := tokenLinesUptoRow, standIns := [], harness := (true, "784640cac34f25dd9f76009c2d323e8ebaa5251fb64e7eea6559603a462185b7"), looks := true }, kinds := [], alts := [], laidByText := true, laidKinds := [.data, .data, .data, .sentinel, .sentinel], laidTests := true, laidLooks := .later }
def TokenLinesUptoCardSaid : Prop := Claim7.holds Tryd.pinned (.plain (OpenSpec.upto tokenLinesSpec)) tokenLinesUptoCard

/-- THE SECOND FORM's CARD OF 'interleavelaw01.TokenComments'. -/
def tokenCommentsUptoCard : Claim7 := { stood := { row := tokenCommentsUptoRow, standIns := [], harness := (true, "784640cac34f25dd9f76009c2d323e8ebaa5251fb64e7eea6559603a462185b7"), looks := true }, kinds := [], alts := [], laidByText := true, laidKinds := [.data, .data, .data, .sentinel, .sentinel], laidTests := true, laidLooks := .later }
def TokenCommentsUptoCardSaid : Prop := Claim7.holds Tryd.pinned (.plain (OpenSpec.upto tokenCommentsSpec)) tokenCommentsUptoCard

/-- THE SECOND FORM's CARD OF 'interleavelaw01.TokenSigns'. -/
def tokenSignsUptoCard : Claim7 := { stood := { row := tokenSignsUptoRow, standIns := [], harness := (true, "784640cac34f25dd9f76009c2d323e8ebaa5251fb64e7eea6559603a462185b7"), looks := true }, kinds := [], alts := [], laidByText := true, laidKinds := [.data, .data, .data, .sentinel, .sentinel], laidTests := true, laidLooks := .later }
def TokenSignsUptoCardSaid : Prop := Claim7.holds Tryd.pinned (.plain (OpenSpec.upto tokenSignsSpec)) tokenSignsUptoCard

/-- THE SECOND FORM's CARD OF 'interleavelaw01.TokenLength'. -/
def tokenLengthUptoCard : Claim7 := { stood := { row := tokenLengthUptoRow, standIns := [], harness := (true, "784640cac34f25dd9f76009c2d323e8ebaa5251fb64e7eea6559603a462185b7"), looks := true }, kinds := [], alts := [], laidByText := true, laidKinds := [.data, .data, .data, .sentinel, .sentinel], laidTests := true, laidLooks := .later }
def TokenLengthUptoCardSaid : Prop := Claim7.holds Tryd.pinned (.plain (OpenSpec.upto tokenLengthSpec)) tokenLengthUptoCard
end Rows
end Go.Proofs.YtdkloonoeklgaaaDoor
