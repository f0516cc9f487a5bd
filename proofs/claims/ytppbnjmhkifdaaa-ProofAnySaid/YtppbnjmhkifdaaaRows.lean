/-
  No cell of these rows narrows 'for every input' (looked for: loops, veiled, ifaces, maps, wideKeys, modest, calm, conditions, laid).
  DERIVED. THE GIVEN ROWS OF THIS SEAT. 9 by the template 'for every input the law returns true; each argument reads behind the call as it read before'; 0 by the template 'total and deterministic' (their statements: YtppbnjmhkifdaaaTotals.lean).
  GIVEN WITH THE SEED: the statements are not yours to turn. If you find one false, say at which input.
  Laid BY PROGRAM, IN A SANDBOX (cutbox-rows.mjs): the forced cells as the released guide's own fill.sh prints them over the translation d71afcbdaf875ba4… (all of the seat's roots in one cut). By AI agents, Wed Nov 11 2026. No macro, syntax, notation, axiom, sorry.
-/
import Derived.Test.YtppbnjmhkifdaaaChecked
import GoSem.Claim
import GoSem.ClaimJoined
import GoSem.ClaimMapViews
import Derived.JoinedTies
import Derived.KernelRfl
namespace Go.Proofs.Ytppbnjmhkifdaaa
/- THE CELL 'sum', in the pinned program and in every row, IS THE sha256 OF THE DUMP (.gsa) THAT YtppbnjmhkifdaaaProg.lean LOADS. Nothing in Lean hashes anything: it is a label: what it is worth is what the hold of that sum in a sandbox is worth. -/
noncomputable def Try.pinned : Pinned := { name := "ytppbnjmhkifdaaa", sum := "d71afcbdaf875ba4f520122c96a009a69a2955cc08a66f547dffcba47f23f387", checked := Try.checked }
namespace Rows
def none {H : Type} : Left H := { results := [], args := [] }

/-- 'interleavelaw33.ProofAny': WHATEVER THE INPUT: true; the input reads as it did. -/
def proofAnySpec : ChangeSpec := { name := "proofAny", fn := fun _ => fun
  | [d1, d2] => { results := [.lit (.bool true)], args := [d1, d2] }
  | _ => none }
def proofAnyRow : OpenClaim := { program := "ytppbnjmhkifdaaa", sum := "d71afcbdaf875ba4f520122c96a009a69a2955cc08a66f547dffcba47f23f387", func := "interleave/interleavelaw33.ProofAny", spec := "proofAny", unfollowed := true, recurses := true, apart := false }
def ProofAnySaid : Prop := proofAnyRow.holds Try.pinned (OpenSpec.ofChange proofAnySpec)

/-- ITS FALSE NEIGHBOUR: 'it returns false'. Refute it at one input. -/
def proofAnyWrong : ChangeSpec := { name := "proofAny", fn := fun _ => fun
  | [d1, d2] => { results := [.lit (.bool false)], args := [d1, d2] }
  | _ => none }
def ProofAnyWrongFalsely : Prop := proofAnyRow.holds Try.pinned (OpenSpec.ofChange proofAnyWrong)

/-- 'interleavelaw33.ProofClauses': WHATEVER THE INPUT: true; the input reads as it did. -/
def proofClausesSpec : ChangeSpec := { name := "proofClauses", fn := fun _ => fun
  | [d1, d2] => { results := [.lit (.bool true)], args := [d1, d2] }
  | _ => none }
def proofClausesRow : OpenClaim := { program := "ytppbnjmhkifdaaa", sum := "d71afcbdaf875ba4f520122c96a009a69a2955cc08a66f547dffcba47f23f387", func := "interleave/interleavelaw33.ProofClauses", spec := "proofClauses", unfollowed := true, recurses := true, apart := false }
def ProofClausesSaid : Prop := proofClausesRow.holds Try.pinned (OpenSpec.ofChange proofClausesSpec)

/-- ITS FALSE NEIGHBOUR: 'it returns false'. Refute it at one input. -/
def proofClausesWrong : ChangeSpec := { name := "proofClauses", fn := fun _ => fun
  | [d1, d2] => { results := [.lit (.bool false)], args := [d1, d2] }
  | _ => none }
def ProofClausesWrongFalsely : Prop := proofClausesRow.holds Try.pinned (OpenSpec.ofChange proofClausesWrong)

/-- 'interleavelaw33.ProofChecks': WHATEVER THE INPUT: true; the input reads as it did. -/
def proofChecksSpec : ChangeSpec := { name := "proofChecks", fn := fun _ => fun
  | [d1, d2, d3, d4] => { results := [.lit (.bool true)], args := [d1, d2, d3, d4] }
  | _ => none }
def proofChecksRow : OpenClaim := { program := "ytppbnjmhkifdaaa", sum := "d71afcbdaf875ba4f520122c96a009a69a2955cc08a66f547dffcba47f23f387", func := "interleave/interleavelaw33.ProofChecks", spec := "proofChecks", unfollowed := true, recurses := true, apart := false }
def ProofChecksSaid : Prop := proofChecksRow.holds Try.pinned (OpenSpec.ofChange proofChecksSpec)

/-- ITS FALSE NEIGHBOUR: 'it returns false'. Refute it at one input. -/
def proofChecksWrong : ChangeSpec := { name := "proofChecks", fn := fun _ => fun
  | [d1, d2, d3, d4] => { results := [.lit (.bool false)], args := [d1, d2, d3, d4] }
  | _ => none }
def ProofChecksWrongFalsely : Prop := proofChecksRow.holds Try.pinned (OpenSpec.ofChange proofChecksWrong)

/-- 'interleavelaw33.ProofAccepts': WHATEVER THE INPUT: true; the input reads as it did. -/
def proofAcceptsSpec : ChangeSpec := { name := "proofAccepts", fn := fun _ => fun
  | [d] => { results := [.lit (.bool true)], args := [d] }
  | _ => none }
def proofAcceptsRow : OpenClaim := { program := "ytppbnjmhkifdaaa", sum := "d71afcbdaf875ba4f520122c96a009a69a2955cc08a66f547dffcba47f23f387", func := "interleave/interleavelaw33.ProofAccepts", spec := "proofAccepts", unfollowed := true, recurses := true, apart := false }
def ProofAcceptsSaid : Prop := proofAcceptsRow.holds Try.pinned (OpenSpec.ofChange proofAcceptsSpec)

/-- ITS FALSE NEIGHBOUR: 'it returns false'. Refute it at one input. -/
def proofAcceptsWrong : ChangeSpec := { name := "proofAccepts", fn := fun _ => fun
  | [d] => { results := [.lit (.bool false)], args := [d] }
  | _ => none }
def ProofAcceptsWrongFalsely : Prop := proofAcceptsRow.holds Try.pinned (OpenSpec.ofChange proofAcceptsWrong)

/-- 'interleavelaw33.ProofSound': WHATEVER THE INPUT: true; the input reads as it did. -/
def proofSoundSpec : ChangeSpec := { name := "proofSound", fn := fun _ => fun
  | [d1, d2, d3, d4] => { results := [.lit (.bool true)], args := [d1, d2, d3, d4] }
  | _ => none }
def proofSoundRow : OpenClaim := { program := "ytppbnjmhkifdaaa", sum := "d71afcbdaf875ba4f520122c96a009a69a2955cc08a66f547dffcba47f23f387", func := "interleave/interleavelaw33.ProofSound", spec := "proofSound", unfollowed := true, recurses := true, apart := false }
def ProofSoundSaid : Prop := proofSoundRow.holds Try.pinned (OpenSpec.ofChange proofSoundSpec)

/-- ITS FALSE NEIGHBOUR: 'it returns false'. Refute it at one input. -/
def proofSoundWrong : ChangeSpec := { name := "proofSound", fn := fun _ => fun
  | [d1, d2, d3, d4] => { results := [.lit (.bool false)], args := [d1, d2, d3, d4] }
  | _ => none }
def ProofSoundWrongFalsely : Prop := proofSoundRow.holds Try.pinned (OpenSpec.ofChange proofSoundWrong)

/-- 'interleavelaw33.ProofDerives': WHATEVER THE INPUT: true; the input reads as it did. -/
def proofDerivesSpec : ChangeSpec := { name := "proofDerives", fn := fun _ => fun
  | [d1, d2, d3] => { results := [.lit (.bool true)], args := [d1, d2, d3] }
  | _ => none }
def proofDerivesRow : OpenClaim := { program := "ytppbnjmhkifdaaa", sum := "d71afcbdaf875ba4f520122c96a009a69a2955cc08a66f547dffcba47f23f387", func := "interleave/interleavelaw33.ProofDerives", spec := "proofDerives", unfollowed := true, recurses := true, apart := false }
def ProofDerivesSaid : Prop := proofDerivesRow.holds Try.pinned (OpenSpec.ofChange proofDerivesSpec)

/-- ITS FALSE NEIGHBOUR: 'it returns false'. Refute it at one input. -/
def proofDerivesWrong : ChangeSpec := { name := "proofDerives", fn := fun _ => fun
  | [d1, d2, d3] => { results := [.lit (.bool false)], args := [d1, d2, d3] }
  | _ => none }
def ProofDerivesWrongFalsely : Prop := proofDerivesRow.holds Try.pinned (OpenSpec.ofChange proofDerivesWrong)

/-- 'interleavelaw33.ProofTrimAgain': WHATEVER THE INPUT: true; the input reads as it did. -/
def proofTrimAgainSpec : ChangeSpec := { name := "proofTrimAgain", fn := fun _ => fun
  | [d] => { results := [.lit (.bool true)], args := [d] }
  | _ => none }
def proofTrimAgainRow : OpenClaim := { program := "ytppbnjmhkifdaaa", sum := "d71afcbdaf875ba4f520122c96a009a69a2955cc08a66f547dffcba47f23f387", func := "interleave/interleavelaw33.ProofTrimAgain", spec := "proofTrimAgain", unfollowed := true, recurses := true, apart := false }
def ProofTrimAgainSaid : Prop := proofTrimAgainRow.holds Try.pinned (OpenSpec.ofChange proofTrimAgainSpec)

/-- ITS FALSE NEIGHBOUR: 'it returns false'. Refute it at one input. -/
def proofTrimAgainWrong : ChangeSpec := { name := "proofTrimAgain", fn := fun _ => fun
  | [d] => { results := [.lit (.bool false)], args := [d] }
  | _ => none }
def ProofTrimAgainWrongFalsely : Prop := proofTrimAgainRow.holds Try.pinned (OpenSpec.ofChange proofTrimAgainWrong)

/-- 'interleavelaw33.ProofTrims': WHATEVER THE INPUT: true; the input reads as it did. -/
def proofTrimsSpec : ChangeSpec := { name := "proofTrims", fn := fun _ => fun
  | [d1, d2, d3] => { results := [.lit (.bool true)], args := [d1, d2, d3] }
  | _ => none }
def proofTrimsRow : OpenClaim := { program := "ytppbnjmhkifdaaa", sum := "d71afcbdaf875ba4f520122c96a009a69a2955cc08a66f547dffcba47f23f387", func := "interleave/interleavelaw33.ProofTrims", spec := "proofTrims", unfollowed := true, recurses := true, apart := false }
def ProofTrimsSaid : Prop := proofTrimsRow.holds Try.pinned (OpenSpec.ofChange proofTrimsSpec)

/-- ITS FALSE NEIGHBOUR: 'it returns false'. Refute it at one input. -/
def proofTrimsWrong : ChangeSpec := { name := "proofTrims", fn := fun _ => fun
  | [d1, d2, d3] => { results := [.lit (.bool false)], args := [d1, d2, d3] }
  | _ => none }
def ProofTrimsWrongFalsely : Prop := proofTrimsRow.holds Try.pinned (OpenSpec.ofChange proofTrimsWrong)

/-- 'interleavelaw33.ProofCores': WHATEVER THE INPUT: true; the input reads as it did. -/
def proofCoresSpec : ChangeSpec := { name := "proofCores", fn := fun _ => fun
  | [d] => { results := [.lit (.bool true)], args := [d] }
  | _ => none }
def proofCoresRow : OpenClaim := { program := "ytppbnjmhkifdaaa", sum := "d71afcbdaf875ba4f520122c96a009a69a2955cc08a66f547dffcba47f23f387", func := "interleave/interleavelaw33.ProofCores", spec := "proofCores", unfollowed := true, recurses := true, apart := false }
def ProofCoresSaid : Prop := proofCoresRow.holds Try.pinned (OpenSpec.ofChange proofCoresSpec)

/-- ITS FALSE NEIGHBOUR: 'it returns false'. Refute it at one input. -/
def proofCoresWrong : ChangeSpec := { name := "proofCores", fn := fun _ => fun
  | [d] => { results := [.lit (.bool false)], args := [d] }
  | _ => none }
def ProofCoresWrongFalsely : Prop := proofCoresRow.holds Try.pinned (OpenSpec.ofChange proofCoresWrong)

/- THE SECOND FORM. 'bulk': how many values and letters a reading holds, each counted each time it is reached (what is shared counts as often as it is met; a slice's spare places count too). A statement '..UptoSaid' is the law's where the arguments, and the package variables that the reading takes, are together of bulk at most 1048576: NARROWER than '..Said'. Prove '..Said' where nothing that the law and all that it calls make is longer than what came in: it says more and counts as full. Else prove '..UptoSaid'. A law counts once. -/
mutual
def uptoBulk {H : Type} : DataW H → Nat
  | .lit (.string bytes) => bytes.length + 1
  | .lit _ => 1
  | .nil => 1
  | .ptr d => uptoBulk d + 1
  | .slice elems spare => uptoBulkAll elems + uptoBulkAll spare + 1
  | .agg parts => uptoBulkAll parts + 1
  | .iface _ d => uptoBulk d + 1
  | .map entries => uptoBulkEntries entries + 1
  | .held _ => 1
def uptoBulkAll {H : Type} : List (DataW H) → Nat
  | [] => 0
  | d :: r => uptoBulk d + uptoBulkAll r
def uptoBulkEntries {H : Type} : List (Lit × DataW H) → Nat
  | [] => 0
  | x :: r => uptoBulkEntry x + uptoBulkEntries r
def uptoBulkEntry {H : Type} : Lit × DataW H → Nat
  | (.string bytes, d) => bytes.length + uptoBulk d + 1
  | (_, d) => uptoBulk d + 1
 end
def uptoSmall : (H : Type) → List (DataW H) → Bool := fun _ ds => decide (uptoBulkAll ds ≤ 1048576)
def OpenSpec.upto (s : _root_.Go.ChangeSpec) : _root_.Go.OpenSpec := { _root_.Go.OpenSpec.ofChange s with cond := some uptoSmall }

/-- 'interleavelaw33.ProofAny', WHERE WHAT IT READS IS OF BULK AT MOST 1048576: true; the input reads as it did. -/
def proofAnyUptoRow : OpenClaim := { program := "ytppbnjmhkifdaaa", sum := "d71afcbdaf875ba4f520122c96a009a69a2955cc08a66f547dffcba47f23f387", func := "interleave/interleavelaw33.ProofAny", spec := "proofAny", unfollowed := true, recurses := true, apart := false, narrowed := true }
def ProofAnyUptoSaid : Prop := proofAnyUptoRow.holds Try.pinned (OpenSpec.upto proofAnySpec)

/-- 'interleavelaw33.ProofClauses', WHERE WHAT IT READS IS OF BULK AT MOST 1048576: true; the input reads as it did. -/
def proofClausesUptoRow : OpenClaim := { program := "ytppbnjmhkifdaaa", sum := "d71afcbdaf875ba4f520122c96a009a69a2955cc08a66f547dffcba47f23f387", func := "interleave/interleavelaw33.ProofClauses", spec := "proofClauses", unfollowed := true, recurses := true, apart := false, narrowed := true }
def ProofClausesUptoSaid : Prop := proofClausesUptoRow.holds Try.pinned (OpenSpec.upto proofClausesSpec)

/-- 'interleavelaw33.ProofChecks', WHERE WHAT IT READS IS OF BULK AT MOST 1048576: true; the input reads as it did. -/
def proofChecksUptoRow : OpenClaim := { program := "ytppbnjmhkifdaaa", sum := "d71afcbdaf875ba4f520122c96a009a69a2955cc08a66f547dffcba47f23f387", func := "interleave/interleavelaw33.ProofChecks", spec := "proofChecks", unfollowed := true, recurses := true, apart := false, narrowed := true }
def ProofChecksUptoSaid : Prop := proofChecksUptoRow.holds Try.pinned (OpenSpec.upto proofChecksSpec)

/-- 'interleavelaw33.ProofAccepts', WHERE WHAT IT READS IS OF BULK AT MOST 1048576: true; the input reads as it did. -/
def proofAcceptsUptoRow : OpenClaim := { program := "ytppbnjmhkifdaaa", sum := "d71afcbdaf875ba4f520122c96a009a69a2955cc08a66f547dffcba47f23f387", func := "interleave/interleavelaw33.ProofAccepts", spec := "proofAccepts", unfollowed := true, recurses := true, apart := false, narrowed := true }
def ProofAcceptsUptoSaid : Prop := proofAcceptsUptoRow.holds Try.pinned (OpenSpec.upto proofAcceptsSpec)

/-- 'interleavelaw33.ProofSound', WHERE WHAT IT READS IS OF BULK AT MOST 1048576: true; the input reads as it did. -/
def proofSoundUptoRow : OpenClaim := { program := "ytppbnjmhkifdaaa", sum := "d71afcbdaf875ba4f520122c96a009a69a2955cc08a66f547dffcba47f23f387", func := "interleave/interleavelaw33.ProofSound", spec := "proofSound", unfollowed := true, recurses := true, apart := false, narrowed := true }
def ProofSoundUptoSaid : Prop := proofSoundUptoRow.holds Try.pinned (OpenSpec.upto proofSoundSpec)

/-- 'interleavelaw33.ProofDerives', WHERE WHAT IT READS IS OF BULK AT MOST 1048576: true; the input reads as it did. -/
def proofDerivesUptoRow : OpenClaim := { program := "ytppbnjmhkifdaaa", sum := "d71afcbdaf875ba4f520122c96a009a69a2955cc08a66f547dffcba47f23f387", func := "interleave/interleavelaw33.ProofDerives", spec := "proofDerives", unfollowed := true, recurses := true, apart := false, narrowed := true }
def ProofDerivesUptoSaid : Prop := proofDerivesUptoRow.holds Try.pinned (OpenSpec.upto proofDerivesSpec)

/-- 'interleavelaw33.ProofTrimAgain', WHERE WHAT IT READS IS OF BULK AT MOST 1048576: true; the input reads as it did. -/
def proofTrimAgainUptoRow : OpenClaim := { program := "ytppbnjmhkifdaaa", sum := "d71afcbdaf875ba4f520122c96a009a69a2955cc08a66f547dffcba47f23f387", func := "interleave/interleavelaw33.ProofTrimAgain", spec := "proofTrimAgain", unfollowed := true, recurses := true, apart := false, narrowed := true }
def ProofTrimAgainUptoSaid : Prop := proofTrimAgainUptoRow.holds Try.pinned (OpenSpec.upto proofTrimAgainSpec)

/-- 'interleavelaw33.ProofTrims', WHERE WHAT IT READS IS OF BULK AT MOST 1048576: true; the input reads as it did. -/
def proofTrimsUptoRow : OpenClaim := { program := "ytppbnjmhkifdaaa", sum := "d71afcbdaf875ba4f520122c96a009a69a2955cc08a66f547dffcba47f23f387", func := "interleave/interleavelaw33.ProofTrims", spec := "proofTrims", unfollowed := true, recurses := true, apart := false, narrowed := true }
def ProofTrimsUptoSaid : Prop := proofTrimsUptoRow.holds Try.pinned (OpenSpec.upto proofTrimsSpec)

/-- 'interleavelaw33.ProofCores', WHERE WHAT IT READS IS OF BULK AT MOST 1048576: true; the input reads as it did. -/
def proofCoresUptoRow : OpenClaim := { program := "ytppbnjmhkifdaaa", sum := "d71afcbdaf875ba4f520122c96a009a69a2955cc08a66f547dffcba47f23f387", func := "interleave/interleavelaw33.ProofCores", spec := "proofCores", unfollowed := true, recurses := true, apart := false, narrowed := true }
def ProofCoresUptoSaid : Prop := proofCoresUptoRow.holds Try.pinned (OpenSpec.upto proofCoresSpec)

end Rows
end Go.Proofs.Ytppbnjmhkifdaaa
