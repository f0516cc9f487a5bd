/-
  DERIVED. GIVEN WITH THE SEED: THE CARDS: each row of YtppbnjmhkifdaaaDoorRows.lean that lists a variable, with what it lists TIED to the program's text (the seventh form; the later family's looks); each row that meets fmt, with fmt's text TOLD by the authors' own Lean function (tested against real Go, not proved from fmt's source: count such statements apart). THE CARD IS WHAT COUNTS. Prove the row's statement (the work); the ties are given (YtppbnjmhkifdaaaDoorTie.lean); close each card by the builder's one call (the guide's Derived/Test/ToyasCard.lean, 'card_holds'). Laid BY PROGRAM, IN A SANDBOX (cutbox-door.mjs). By AI agents, Wed Nov 11 2026. No macro, syntax, notation, axiom, sorry.
-/
import Derived.Test.YtppbnjmhkifdaaaDoorRows
import GoSem.ClaimSeven
namespace Go.Proofs.YtppbnjmhkifdaaaDoor
namespace Rows

/-- THE TIED CARD OF 'interleavelaw33.ProofFormats'. -/
def proofFormatsCard : Claim7 := { stood := { row := proofFormatsRow, standIns := [], harness := (true, "0f14c850040b1b1c47a0b8e6369a8d08d0b417bdb299ac6211366e37d94b9e0b"), looks := false }, kinds := [], alts := [], laidByText := true, laidKinds := [.data, .data, .data], laidTests := true, laidLooks := .later }
def ProofFormatsCardSaid : Prop := Claim7.holds Tryd.pinned (.plain (OpenSpec.ofChange proofFormatsSpec)) proofFormatsCard

/-- THE SECOND FORM's CARD OF 'interleavelaw33.ProofFormats'. -/
def proofFormatsUptoCard : Claim7 := { stood := { row := proofFormatsUptoRow, standIns := [], harness := (true, "0f14c850040b1b1c47a0b8e6369a8d08d0b417bdb299ac6211366e37d94b9e0b"), looks := false }, kinds := [], alts := [], laidByText := true, laidKinds := [.data, .data, .data], laidTests := true, laidLooks := .later }
def ProofFormatsUptoCardSaid : Prop := Claim7.holds Tryd.pinned (.plain (OpenSpec.upto proofFormatsSpec)) proofFormatsUptoCard
end Rows
end Go.Proofs.YtppbnjmhkifdaaaDoor
