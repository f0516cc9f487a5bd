/-
  NARROWER THAN 'FOR EVERY INPUT', by the rows' own cells (each row's printed sentence says how): FormulaNormal: laid · FormulaBounds: laid · FormulaOpposite: laid · FormulaFormats: laid · FormulaMeans: laid · FormulaHolds: laid · FormulaValid: laid · FormulaLimits: laid · FormulaClauses: laid · FormulaSatisfies: laid · FormulaModels: laid.
  DERIVED. THE GIVEN ROWS OF THIS SEAT. 11 by the template 'for every input the law returns true; each argument reads behind the call as it read before'; 0 by the template 'total and deterministic' (their statements: YtpaoepcebcjfhaaDoorTotals.lean).
  GIVEN WITH THE SEED: the statements are not yours to turn. If you find one false, say at which input.
  Laid BY PROGRAM, IN A SANDBOX (cutbox-rows.mjs): the forced cells as the released guide's own fill.sh prints them over the translation 3f7c8bc473255a47… (all of the seat's roots in one cut). By AI agents, Wed Nov 11 2026. No macro, syntax, notation, axiom, sorry.
-/
import Derived.Test.YtpaoepcebcjfhaaDoorChecked
import GoSem.Claim
import GoSem.ClaimJoined
import GoSem.ClaimMapViews
import Derived.JoinedTies
import Derived.KernelRfl
namespace Go.Proofs.YtpaoepcebcjfhaaDoor
/- THE CELL 'sum', in the pinned program and in every row, IS THE sha256 OF THE DUMP (.gsa) THAT YtpaoepcebcjfhaaDoorProg.lean LOADS. Nothing in Lean hashes anything: it is a label: what it is worth is what the hold of that sum in a sandbox is worth. -/
noncomputable def Tryd.pinned : Pinned := { name := "ytpaoepcebcjfhaadoor", sum := "3f7c8bc473255a476ab872916f65b00da4473504c3975234fccd2fde6058c970", checked := Tryd.checked }
namespace Rows
def none {H : Type} : Left H := { results := [], args := [] }

/- WHAT THE LISTED PACKAGE-LEVEL VARIABLES READ AS WHEN THE CALL BEGINS. Each datum BY PROGRAM (the guide's laid-datum.mjs) off the statement by which the dump's own 'gosem.cut.vars' lays the variable. In a bare row this is a premise. The card (YtpaoepcebcjfhaaDoorCards.lean) ties it to the program's text. -/
def laid_math_bits_deBruijn32tab {H : Type} : DataW H := .agg [.lit (.int .u8 0), .lit (.int .u8 1), .lit (.int .u8 28), .lit (.int .u8 2), .lit (.int .u8 29), .lit (.int .u8 14), .lit (.int .u8 24), .lit (.int .u8 3), .lit (.int .u8 30), .lit (.int .u8 22), .lit (.int .u8 20), .lit (.int .u8 15), .lit (.int .u8 25), .lit (.int .u8 17), .lit (.int .u8 4), .lit (.int .u8 8), .lit (.int .u8 31), .lit (.int .u8 27), .lit (.int .u8 13), .lit (.int .u8 23), .lit (.int .u8 21), .lit (.int .u8 19), .lit (.int .u8 16), .lit (.int .u8 7), .lit (.int .u8 26), .lit (.int .u8 12), .lit (.int .u8 18), .lit (.int .u8 6), .lit (.int .u8 11), .lit (.int .u8 5), .lit (.int .u8 10), .lit (.int .u8 9)]
def laid_math_bits_deBruijn64tab {H : Type} : DataW H := .agg [.lit (.int .u8 0), .lit (.int .u8 1), .lit (.int .u8 56), .lit (.int .u8 2), .lit (.int .u8 57), .lit (.int .u8 49), .lit (.int .u8 28), .lit (.int .u8 3), .lit (.int .u8 61), .lit (.int .u8 58), .lit (.int .u8 42), .lit (.int .u8 50), .lit (.int .u8 38), .lit (.int .u8 29), .lit (.int .u8 17), .lit (.int .u8 4), .lit (.int .u8 62), .lit (.int .u8 47), .lit (.int .u8 59), .lit (.int .u8 36), .lit (.int .u8 45), .lit (.int .u8 43), .lit (.int .u8 51), .lit (.int .u8 22), .lit (.int .u8 53), .lit (.int .u8 39), .lit (.int .u8 33), .lit (.int .u8 30), .lit (.int .u8 24), .lit (.int .u8 18), .lit (.int .u8 12), .lit (.int .u8 5), .lit (.int .u8 63), .lit (.int .u8 55), .lit (.int .u8 48), .lit (.int .u8 27), .lit (.int .u8 60), .lit (.int .u8 41), .lit (.int .u8 37), .lit (.int .u8 16), .lit (.int .u8 46), .lit (.int .u8 35), .lit (.int .u8 44), .lit (.int .u8 21), .lit (.int .u8 52), .lit (.int .u8 32), .lit (.int .u8 23), .lit (.int .u8 11), .lit (.int .u8 54), .lit (.int .u8 26), .lit (.int .u8 40), .lit (.int .u8 15), .lit (.int .u8 34), .lit (.int .u8 20), .lit (.int .u8 31), .lit (.int .u8 10), .lit (.int .u8 25), .lit (.int .u8 14), .lit (.int .u8 19), .lit (.int .u8 9), .lit (.int .u8 13), .lit (.int .u8 8), .lit (.int .u8 7), .lit (.int .u8 6)]
def laid_internal_strconv_uint64pow10 {H : Type} : DataW H := .agg [.lit (.int .u64 1), .lit (.int .u64 10), .lit (.int .u64 100), .lit (.int .u64 1000), .lit (.int .u64 10000), .lit (.int .u64 100000), .lit (.int .u64 1000000), .lit (.int .u64 10000000), .lit (.int .u64 100000000), .lit (.int .u64 1000000000), .lit (.int .u64 10000000000), .lit (.int .u64 100000000000), .lit (.int .u64 1000000000000), .lit (.int .u64 10000000000000), .lit (.int .u64 100000000000000), .lit (.int .u64 1000000000000000), .lit (.int .u64 10000000000000000), .lit (.int .u64 100000000000000000), .lit (.int .u64 1000000000000000000), .lit (.int .u64 10000000000000000000)]

/-- 'interleavelaw31.FormulaNormal': WHATEVER THE INPUT: true; the input reads as it did. -/
def formulaNormalSpec : ChangeSpec := { name := "formulaNormal", fn := fun _ => fun
  | [d] => { results := [.lit (.bool true)], args := [d] }
  | _ => none }
def formulaNormalRow : OpenClaim := { program := "ytpaoepcebcjfhaadoor", sum := "3f7c8bc473255a476ab872916f65b00da4473504c3975234fccd2fde6058c970", func := "interleave/interleavelaw31.FormulaNormal", spec := "formulaNormal", inPlace := ["internal/abi.NoEscape"], unfollowed := true, recurses := true, named := ["internal/strconv.uint64pow10", "math/bits.deBruijn32tab", "math/bits.deBruijn64tab"], apart := false, laid := [("math/bits.deBruijn32tab", laid_math_bits_deBruijn32tab), ("math/bits.deBruijn64tab", laid_math_bits_deBruijn64tab), ("internal/strconv.uint64pow10", laid_internal_strconv_uint64pow10)] }
def FormulaNormalSaid : Prop := formulaNormalRow.holds Tryd.pinned (OpenSpec.ofChange formulaNormalSpec)

/-- ITS FALSE NEIGHBOUR: 'it returns false'. Refute it at one input. -/
def formulaNormalWrong : ChangeSpec := { name := "formulaNormal", fn := fun _ => fun
  | [d] => { results := [.lit (.bool false)], args := [d] }
  | _ => none }
def FormulaNormalWrongFalsely : Prop := formulaNormalRow.holds Tryd.pinned (OpenSpec.ofChange formulaNormalWrong)

/-- 'interleavelaw31.FormulaBounds': WHATEVER THE INPUT: true; the input reads as it did. -/
def formulaBoundsSpec : ChangeSpec := { name := "formulaBounds", fn := fun _ => fun
  | [d1, d2] => { results := [.lit (.bool true)], args := [d1, d2] }
  | _ => none }
def formulaBoundsRow : OpenClaim := { program := "ytpaoepcebcjfhaadoor", sum := "3f7c8bc473255a476ab872916f65b00da4473504c3975234fccd2fde6058c970", func := "interleave/interleavelaw31.FormulaBounds", spec := "formulaBounds", inPlace := ["internal/abi.NoEscape"], unfollowed := true, recurses := true, named := ["internal/strconv.uint64pow10", "math/bits.deBruijn32tab", "math/bits.deBruijn64tab"], apart := false, laid := [("math/bits.deBruijn32tab", laid_math_bits_deBruijn32tab), ("math/bits.deBruijn64tab", laid_math_bits_deBruijn64tab), ("internal/strconv.uint64pow10", laid_internal_strconv_uint64pow10)] }
def FormulaBoundsSaid : Prop := formulaBoundsRow.holds Tryd.pinned (OpenSpec.ofChange formulaBoundsSpec)

/-- ITS FALSE NEIGHBOUR: 'it returns false'. Refute it at one input. -/
def formulaBoundsWrong : ChangeSpec := { name := "formulaBounds", fn := fun _ => fun
  | [d1, d2] => { results := [.lit (.bool false)], args := [d1, d2] }
  | _ => none }
def FormulaBoundsWrongFalsely : Prop := formulaBoundsRow.holds Tryd.pinned (OpenSpec.ofChange formulaBoundsWrong)

/-- 'interleavelaw31.FormulaOpposite': WHATEVER THE INPUT: true; the input reads as it did. -/
def formulaOppositeSpec : ChangeSpec := { name := "formulaOpposite", fn := fun _ => fun
  | [d1, d2, d3] => { results := [.lit (.bool true)], args := [d1, d2, d3] }
  | _ => none }
def formulaOppositeRow : OpenClaim := { program := "ytpaoepcebcjfhaadoor", sum := "3f7c8bc473255a476ab872916f65b00da4473504c3975234fccd2fde6058c970", func := "interleave/interleavelaw31.FormulaOpposite", spec := "formulaOpposite", inPlace := ["internal/abi.NoEscape"], unfollowed := true, recurses := true, named := ["internal/strconv.uint64pow10", "math/bits.deBruijn32tab", "math/bits.deBruijn64tab"], apart := false, laid := [("math/bits.deBruijn32tab", laid_math_bits_deBruijn32tab), ("math/bits.deBruijn64tab", laid_math_bits_deBruijn64tab), ("internal/strconv.uint64pow10", laid_internal_strconv_uint64pow10)] }
def FormulaOppositeSaid : Prop := formulaOppositeRow.holds Tryd.pinned (OpenSpec.ofChange formulaOppositeSpec)

/-- ITS FALSE NEIGHBOUR: 'it returns false'. Refute it at one input. -/
def formulaOppositeWrong : ChangeSpec := { name := "formulaOpposite", fn := fun _ => fun
  | [d1, d2, d3] => { results := [.lit (.bool false)], args := [d1, d2, d3] }
  | _ => none }
def FormulaOppositeWrongFalsely : Prop := formulaOppositeRow.holds Tryd.pinned (OpenSpec.ofChange formulaOppositeWrong)

/-- 'interleavelaw31.FormulaFormats': WHATEVER THE INPUT: true; the input reads as it did. -/
def formulaFormatsSpec : ChangeSpec := { name := "formulaFormats", fn := fun _ => fun
  | [d] => { results := [.lit (.bool true)], args := [d] }
  | _ => none }
def formulaFormatsRow : OpenClaim := { program := "ytpaoepcebcjfhaadoor", sum := "3f7c8bc473255a476ab872916f65b00da4473504c3975234fccd2fde6058c970", func := "interleave/interleavelaw31.FormulaFormats", spec := "formulaFormats", inPlace := ["internal/abi.NoEscape"], unfollowed := true, recurses := true, named := ["internal/strconv.uint64pow10", "math/bits.deBruijn32tab", "math/bits.deBruijn64tab"], apart := false, laid := [("math/bits.deBruijn32tab", laid_math_bits_deBruijn32tab), ("math/bits.deBruijn64tab", laid_math_bits_deBruijn64tab), ("internal/strconv.uint64pow10", laid_internal_strconv_uint64pow10)] }
def FormulaFormatsSaid : Prop := formulaFormatsRow.holds Tryd.pinned (OpenSpec.ofChange formulaFormatsSpec)

/-- ITS FALSE NEIGHBOUR: 'it returns false'. Refute it at one input. -/
def formulaFormatsWrong : ChangeSpec := { name := "formulaFormats", fn := fun _ => fun
  | [d] => { results := [.lit (.bool false)], args := [d] }
  | _ => none }
def FormulaFormatsWrongFalsely : Prop := formulaFormatsRow.holds Tryd.pinned (OpenSpec.ofChange formulaFormatsWrong)

/-- 'interleavelaw31.FormulaMeans': WHATEVER THE INPUT: true; the input reads as it did. -/
def formulaMeansSpec : ChangeSpec := { name := "formulaMeans", fn := fun _ => fun
  | [d1, d2] => { results := [.lit (.bool true)], args := [d1, d2] }
  | _ => none }
def formulaMeansRow : OpenClaim := { program := "ytpaoepcebcjfhaadoor", sum := "3f7c8bc473255a476ab872916f65b00da4473504c3975234fccd2fde6058c970", func := "interleave/interleavelaw31.FormulaMeans", spec := "formulaMeans", inPlace := ["internal/abi.NoEscape"], unfollowed := true, recurses := true, named := ["internal/strconv.uint64pow10", "math/bits.deBruijn32tab", "math/bits.deBruijn64tab"], apart := false, laid := [("math/bits.deBruijn32tab", laid_math_bits_deBruijn32tab), ("math/bits.deBruijn64tab", laid_math_bits_deBruijn64tab), ("internal/strconv.uint64pow10", laid_internal_strconv_uint64pow10)] }
def FormulaMeansSaid : Prop := formulaMeansRow.holds Tryd.pinned (OpenSpec.ofChange formulaMeansSpec)

/-- ITS FALSE NEIGHBOUR: 'it returns false'. Refute it at one input. -/
def formulaMeansWrong : ChangeSpec := { name := "formulaMeans", fn := fun _ => fun
  | [d1, d2] => { results := [.lit (.bool false)], args := [d1, d2] }
  | _ => none }
def FormulaMeansWrongFalsely : Prop := formulaMeansRow.holds Tryd.pinned (OpenSpec.ofChange formulaMeansWrong)

/-- 'interleavelaw31.FormulaHolds': WHATEVER THE INPUT: true; the input reads as it did. -/
def formulaHoldsSpec : ChangeSpec := { name := "formulaHolds", fn := fun _ => fun
  | [d1, d2] => { results := [.lit (.bool true)], args := [d1, d2] }
  | _ => none }
def formulaHoldsRow : OpenClaim := { program := "ytpaoepcebcjfhaadoor", sum := "3f7c8bc473255a476ab872916f65b00da4473504c3975234fccd2fde6058c970", func := "interleave/interleavelaw31.FormulaHolds", spec := "formulaHolds", inPlace := ["internal/abi.NoEscape"], unfollowed := true, recurses := true, named := ["internal/strconv.uint64pow10", "math/bits.deBruijn32tab", "math/bits.deBruijn64tab"], apart := false, laid := [("math/bits.deBruijn32tab", laid_math_bits_deBruijn32tab), ("math/bits.deBruijn64tab", laid_math_bits_deBruijn64tab), ("internal/strconv.uint64pow10", laid_internal_strconv_uint64pow10)] }
def FormulaHoldsSaid : Prop := formulaHoldsRow.holds Tryd.pinned (OpenSpec.ofChange formulaHoldsSpec)

/-- ITS FALSE NEIGHBOUR: 'it returns false'. Refute it at one input. -/
def formulaHoldsWrong : ChangeSpec := { name := "formulaHolds", fn := fun _ => fun
  | [d1, d2] => { results := [.lit (.bool false)], args := [d1, d2] }
  | _ => none }
def FormulaHoldsWrongFalsely : Prop := formulaHoldsRow.holds Tryd.pinned (OpenSpec.ofChange formulaHoldsWrong)

/-- 'interleavelaw31.FormulaValid': WHATEVER THE INPUT: true; the input reads as it did. -/
def formulaValidSpec : ChangeSpec := { name := "formulaValid", fn := fun _ => fun
  | [d] => { results := [.lit (.bool true)], args := [d] }
  | _ => none }
def formulaValidRow : OpenClaim := { program := "ytpaoepcebcjfhaadoor", sum := "3f7c8bc473255a476ab872916f65b00da4473504c3975234fccd2fde6058c970", func := "interleave/interleavelaw31.FormulaValid", spec := "formulaValid", inPlace := ["internal/abi.NoEscape"], unfollowed := true, recurses := true, named := ["internal/strconv.uint64pow10", "math/bits.deBruijn32tab", "math/bits.deBruijn64tab"], apart := false, laid := [("math/bits.deBruijn32tab", laid_math_bits_deBruijn32tab), ("math/bits.deBruijn64tab", laid_math_bits_deBruijn64tab), ("internal/strconv.uint64pow10", laid_internal_strconv_uint64pow10)] }
def FormulaValidSaid : Prop := formulaValidRow.holds Tryd.pinned (OpenSpec.ofChange formulaValidSpec)

/-- ITS FALSE NEIGHBOUR: 'it returns false'. Refute it at one input. -/
def formulaValidWrong : ChangeSpec := { name := "formulaValid", fn := fun _ => fun
  | [d] => { results := [.lit (.bool false)], args := [d] }
  | _ => none }
def FormulaValidWrongFalsely : Prop := formulaValidRow.holds Tryd.pinned (OpenSpec.ofChange formulaValidWrong)

/-- 'interleavelaw31.FormulaLimits': WHATEVER THE INPUT: true; the input reads as it did. -/
def formulaLimitsSpec : ChangeSpec := { name := "formulaLimits", fn := fun _ => fun
  | [d1, d2, d3, d4, d5, d6] => { results := [.lit (.bool true)], args := [d1, d2, d3, d4, d5, d6] }
  | _ => none }
def formulaLimitsRow : OpenClaim := { program := "ytpaoepcebcjfhaadoor", sum := "3f7c8bc473255a476ab872916f65b00da4473504c3975234fccd2fde6058c970", func := "interleave/interleavelaw31.FormulaLimits", spec := "formulaLimits", inPlace := ["internal/abi.NoEscape"], unfollowed := true, recurses := true, named := ["internal/strconv.uint64pow10", "math/bits.deBruijn32tab", "math/bits.deBruijn64tab"], apart := false, laid := [("math/bits.deBruijn32tab", laid_math_bits_deBruijn32tab), ("math/bits.deBruijn64tab", laid_math_bits_deBruijn64tab), ("internal/strconv.uint64pow10", laid_internal_strconv_uint64pow10)] }
def FormulaLimitsSaid : Prop := formulaLimitsRow.holds Tryd.pinned (OpenSpec.ofChange formulaLimitsSpec)

/-- ITS FALSE NEIGHBOUR: 'it returns false'. Refute it at one input. -/
def formulaLimitsWrong : ChangeSpec := { name := "formulaLimits", fn := fun _ => fun
  | [d1, d2, d3, d4, d5, d6] => { results := [.lit (.bool false)], args := [d1, d2, d3, d4, d5, d6] }
  | _ => none }
def FormulaLimitsWrongFalsely : Prop := formulaLimitsRow.holds Tryd.pinned (OpenSpec.ofChange formulaLimitsWrong)

/-- 'interleavelaw31.FormulaClauses': WHATEVER THE INPUT: true; the input reads as it did. -/
def formulaClausesSpec : ChangeSpec := { name := "formulaClauses", fn := fun _ => fun
  | [d] => { results := [.lit (.bool true)], args := [d] }
  | _ => none }
def formulaClausesRow : OpenClaim := { program := "ytpaoepcebcjfhaadoor", sum := "3f7c8bc473255a476ab872916f65b00da4473504c3975234fccd2fde6058c970", func := "interleave/interleavelaw31.FormulaClauses", spec := "formulaClauses", inPlace := ["internal/abi.NoEscape"], unfollowed := true, recurses := true, named := ["internal/strconv.uint64pow10", "math/bits.deBruijn32tab", "math/bits.deBruijn64tab"], apart := false, laid := [("math/bits.deBruijn32tab", laid_math_bits_deBruijn32tab), ("math/bits.deBruijn64tab", laid_math_bits_deBruijn64tab), ("internal/strconv.uint64pow10", laid_internal_strconv_uint64pow10)] }
def FormulaClausesSaid : Prop := formulaClausesRow.holds Tryd.pinned (OpenSpec.ofChange formulaClausesSpec)

/-- ITS FALSE NEIGHBOUR: 'it returns false'. Refute it at one input. -/
def formulaClausesWrong : ChangeSpec := { name := "formulaClauses", fn := fun _ => fun
  | [d] => { results := [.lit (.bool false)], args := [d] }
  | _ => none }
def FormulaClausesWrongFalsely : Prop := formulaClausesRow.holds Tryd.pinned (OpenSpec.ofChange formulaClausesWrong)

/-- 'interleavelaw31.FormulaSatisfies': WHATEVER THE INPUT: true; the input reads as it did. -/
def formulaSatisfiesSpec : ChangeSpec := { name := "formulaSatisfies", fn := fun _ => fun
  | [d1, d2] => { results := [.lit (.bool true)], args := [d1, d2] }
  | _ => none }
def formulaSatisfiesRow : OpenClaim := { program := "ytpaoepcebcjfhaadoor", sum := "3f7c8bc473255a476ab872916f65b00da4473504c3975234fccd2fde6058c970", func := "interleave/interleavelaw31.FormulaSatisfies", spec := "formulaSatisfies", inPlace := ["internal/abi.NoEscape"], unfollowed := true, recurses := true, named := ["internal/strconv.uint64pow10", "math/bits.deBruijn32tab", "math/bits.deBruijn64tab"], apart := false, laid := [("math/bits.deBruijn32tab", laid_math_bits_deBruijn32tab), ("math/bits.deBruijn64tab", laid_math_bits_deBruijn64tab), ("internal/strconv.uint64pow10", laid_internal_strconv_uint64pow10)] }
def FormulaSatisfiesSaid : Prop := formulaSatisfiesRow.holds Tryd.pinned (OpenSpec.ofChange formulaSatisfiesSpec)

/-- ITS FALSE NEIGHBOUR: 'it returns false'. Refute it at one input. -/
def formulaSatisfiesWrong : ChangeSpec := { name := "formulaSatisfies", fn := fun _ => fun
  | [d1, d2] => { results := [.lit (.bool false)], args := [d1, d2] }
  | _ => none }
def FormulaSatisfiesWrongFalsely : Prop := formulaSatisfiesRow.holds Tryd.pinned (OpenSpec.ofChange formulaSatisfiesWrong)

/-- 'interleavelaw31.FormulaModels': WHATEVER THE INPUT: true; the input reads as it did. -/
def formulaModelsSpec : ChangeSpec := { name := "formulaModels", fn := fun _ => fun
  | [d1, d2, d3] => { results := [.lit (.bool true)], args := [d1, d2, d3] }
  | _ => none }
def formulaModelsRow : OpenClaim := { program := "ytpaoepcebcjfhaadoor", sum := "3f7c8bc473255a476ab872916f65b00da4473504c3975234fccd2fde6058c970", func := "interleave/interleavelaw31.FormulaModels", spec := "formulaModels", inPlace := ["internal/abi.NoEscape"], unfollowed := true, recurses := true, named := ["internal/strconv.uint64pow10", "math/bits.deBruijn32tab", "math/bits.deBruijn64tab"], apart := false, laid := [("math/bits.deBruijn32tab", laid_math_bits_deBruijn32tab), ("math/bits.deBruijn64tab", laid_math_bits_deBruijn64tab), ("internal/strconv.uint64pow10", laid_internal_strconv_uint64pow10)] }
def FormulaModelsSaid : Prop := formulaModelsRow.holds Tryd.pinned (OpenSpec.ofChange formulaModelsSpec)

/-- ITS FALSE NEIGHBOUR: 'it returns false'. Refute it at one input. -/
def formulaModelsWrong : ChangeSpec := { name := "formulaModels", fn := fun _ => fun
  | [d1, d2, d3] => { results := [.lit (.bool false)], args := [d1, d2, d3] }
  | _ => none }
def FormulaModelsWrongFalsely : Prop := formulaModelsRow.holds Tryd.pinned (OpenSpec.ofChange formulaModelsWrong)

/- THE SECOND FORM. 'bulk': how many values and letters a reading holds, each counted each time it is reached (what is shared counts as often as it is met; a slice's spare places count too). A statement '..UptoSaid' is the law's where the arguments, and the package variables that the reading takes, are together of bulk at most 1048576: NARROWER than '..Said'. Prove '..Said' where nothing that the law and all that it calls make is longer than what came in: it says more and counts as full. Else prove '..UptoSaid'. A law counts once. -/
mutual
def uptoBulk {H : Type} : DataW H → Nat
  | .lit (.string bytes) => bytes.length + 1
  | .lit _ => 1
  | .nil => 1
  | .ptr d => uptoBulk d + 1
  | .slice elems spare => uptoBulkAll elems + uptoBulkAll spare + 1
  | .agg parts => uptoBulkAll parts + 1
  | .iface _ d => uptoBulk d + 1
  | .map entries => uptoBulkEntries entries + 1
  | .held _ => 1
def uptoBulkAll {H : Type} : List (DataW H) → Nat
  | [] => 0
  | d :: r => uptoBulk d + uptoBulkAll r
def uptoBulkEntries {H : Type} : List (Lit × DataW H) → Nat
  | [] => 0
  | x :: r => uptoBulkEntry x + uptoBulkEntries r
def uptoBulkEntry {H : Type} : Lit × DataW H → Nat
  | (.string bytes, d) => bytes.length + uptoBulk d + 1
  | (_, d) => uptoBulk d + 1
 end
def uptoSmall : (H : Type) → List (DataW H) → Bool := fun _ ds => decide (uptoBulkAll ds ≤ 1048576)
def OpenSpec.upto (s : _root_.Go.ChangeSpec) : _root_.Go.OpenSpec := { _root_.Go.OpenSpec.ofChange s with cond := some uptoSmall }

/-- 'interleavelaw31.FormulaNormal', WHERE WHAT IT READS IS OF BULK AT MOST 1048576: true; the input reads as it did. -/
def formulaNormalUptoRow : OpenClaim := { program := "ytpaoepcebcjfhaadoor", sum := "3f7c8bc473255a476ab872916f65b00da4473504c3975234fccd2fde6058c970", func := "interleave/interleavelaw31.FormulaNormal", spec := "formulaNormal", inPlace := ["internal/abi.NoEscape"], unfollowed := true, recurses := true, named := ["internal/strconv.uint64pow10", "math/bits.deBruijn32tab", "math/bits.deBruijn64tab"], apart := false, laid := [("math/bits.deBruijn32tab", laid_math_bits_deBruijn32tab), ("math/bits.deBruijn64tab", laid_math_bits_deBruijn64tab), ("internal/strconv.uint64pow10", laid_internal_strconv_uint64pow10)], narrowed := true }
def FormulaNormalUptoSaid : Prop := formulaNormalUptoRow.holds Tryd.pinned (OpenSpec.upto formulaNormalSpec)

/-- 'interleavelaw31.FormulaBounds', WHERE WHAT IT READS IS OF BULK AT MOST 1048576: true; the input reads as it did. -/
def formulaBoundsUptoRow : OpenClaim := { program := "ytpaoepcebcjfhaadoor", sum := "3f7c8bc473255a476ab872916f65b00da4473504c3975234fccd2fde6058c970", func := "interleave/interleavelaw31.FormulaBounds", spec := "formulaBounds", inPlace := ["internal/abi.NoEscape"], unfollowed := true, recurses := true, named := ["internal/strconv.uint64pow10", "math/bits.deBruijn32tab", "math/bits.deBruijn64tab"], apart := false, laid := [("math/bits.deBruijn32tab", laid_math_bits_deBruijn32tab), ("math/bits.deBruijn64tab", laid_math_bits_deBruijn64tab), ("internal/strconv.uint64pow10", laid_internal_strconv_uint64pow10)], narrowed := true }
def FormulaBoundsUptoSaid : Prop := formulaBoundsUptoRow.holds Tryd.pinned (OpenSpec.upto formulaBoundsSpec)

/-- 'interleavelaw31.FormulaOpposite', WHERE WHAT IT READS IS OF BULK AT MOST 1048576: true; the input reads as it did. -/
def formulaOppositeUptoRow : OpenClaim := { program := "ytpaoepcebcjfhaadoor", sum := "3f7c8bc473255a476ab872916f65b00da4473504c3975234fccd2fde6058c970", func := "interleave/interleavelaw31.FormulaOpposite", spec := "formulaOpposite", inPlace := ["internal/abi.NoEscape"], unfollowed := true, recurses := true, named := ["internal/strconv.uint64pow10", "math/bits.deBruijn32tab", "math/bits.deBruijn64tab"], apart := false, laid := [("math/bits.deBruijn32tab", laid_math_bits_deBruijn32tab), ("math/bits.deBruijn64tab", laid_math_bits_deBruijn64tab), ("internal/strconv.uint64pow10", laid_internal_strconv_uint64pow10)], narrowed := true }
def FormulaOppositeUptoSaid : Prop := formulaOppositeUptoRow.holds Tryd.pinned (OpenSpec.upto formulaOppositeSpec)

/-- 'interleavelaw31.FormulaFormats', WHERE WHAT IT READS IS OF BULK AT MOST 1048576: true; the input reads as it did. -/
def formulaFormatsUptoRow : OpenClaim := { program := "ytpaoepcebcjfhaadoor", sum := "3f7c8bc473255a476ab872916f65b00da4473504c3975234fccd2fde6058c970", func := "interleave/interleavelaw31.FormulaFormats", spec := "formulaFormats", inPlace := ["internal/abi.NoEscape"], unfollowed := true, recurses := true, named := ["internal/strconv.uint64pow10", "math/bits.deBruijn32tab", "math/bits.deBruijn64tab"], apart := false, laid := [("math/bits.deBruijn32tab", laid_math_bits_deBruijn32tab), ("math/bits.deBruijn64tab", laid_math_bits_deBruijn64tab), ("internal/strconv.uint64pow10", laid_internal_strconv_uint64pow10)], narrowed := true }
def FormulaFormatsUptoSaid : Prop := formulaFormatsUptoRow.holds Tryd.pinned (OpenSpec.upto formulaFormatsSpec)

/-- 'interleavelaw31.FormulaMeans', WHERE WHAT IT READS IS OF BULK AT MOST 1048576: true; the input reads as it did. -/
def formulaMeansUptoRow : OpenClaim := { program := "ytpaoepcebcjfhaadoor", sum := "3f7c8bc473255a476ab872916f65b00da4473504c3975234fccd2fde6058c970", func := "interleave/interleavelaw31.FormulaMeans", spec := "formulaMeans", inPlace := ["internal/abi.NoEscape"], unfollowed := true, recurses := true, named := ["internal/strconv.uint64pow10", "math/bits.deBruijn32tab", "math/bits.deBruijn64tab"], apart := false, laid := [("math/bits.deBruijn32tab", laid_math_bits_deBruijn32tab), ("math/bits.deBruijn64tab", laid_math_bits_deBruijn64tab), ("internal/strconv.uint64pow10", laid_internal_strconv_uint64pow10)], narrowed := true }
def FormulaMeansUptoSaid : Prop := formulaMeansUptoRow.holds Tryd.pinned (OpenSpec.upto formulaMeansSpec)

/-- 'interleavelaw31.FormulaHolds', WHERE WHAT IT READS IS OF BULK AT MOST 1048576: true; the input reads as it did. -/
def formulaHoldsUptoRow : OpenClaim := { program := "ytpaoepcebcjfhaadoor", sum := "3f7c8bc473255a476ab872916f65b00da4473504c3975234fccd2fde6058c970", func := "interleave/interleavelaw31.FormulaHolds", spec := "formulaHolds", inPlace := ["internal/abi.NoEscape"], unfollowed := true, recurses := true, named := ["internal/strconv.uint64pow10", "math/bits.deBruijn32tab", "math/bits.deBruijn64tab"], apart := false, laid := [("math/bits.deBruijn32tab", laid_math_bits_deBruijn32tab), ("math/bits.deBruijn64tab", laid_math_bits_deBruijn64tab), ("internal/strconv.uint64pow10", laid_internal_strconv_uint64pow10)], narrowed := true }
def FormulaHoldsUptoSaid : Prop := formulaHoldsUptoRow.holds Tryd.pinned (OpenSpec.upto formulaHoldsSpec)

/-- 'interleavelaw31.FormulaValid', WHERE WHAT IT READS IS OF BULK AT MOST 1048576: true; the input reads as it did. -/
def formulaValidUptoRow : OpenClaim := { program := "ytpaoepcebcjfhaadoor", sum := "3f7c8bc473255a476ab872916f65b00da4473504c3975234fccd2fde6058c970", func := "interleave/interleavelaw31.FormulaValid", spec := "formulaValid", inPlace := ["internal/abi.NoEscape"], unfollowed := true, recurses := true, named := ["internal/strconv.uint64pow10", "math/bits.deBruijn32tab", "math/bits.deBruijn64tab"], apart := false, laid := [("math/bits.deBruijn32tab", laid_math_bits_deBruijn32tab), ("math/bits.deBruijn64tab", laid_math_bits_deBruijn64tab), ("internal/strconv.uint64pow10", laid_internal_strconv_uint64pow10)], narrowed := true }
def FormulaValidUptoSaid : Prop := formulaValidUptoRow.holds Tryd.pinned (OpenSpec.upto formulaValidSpec)

/-- 'interleavelaw31.FormulaLimits', WHERE WHAT IT READS IS OF BULK AT MOST 1048576: true; the input reads as it did. -/
def formulaLimitsUptoRow : OpenClaim := { program := "ytpaoepcebcjfhaadoor", sum := "3f7c8bc473255a476ab872916f65b00da4473504c3975234fccd2fde6058c970", func := "interleave/interleavelaw31.FormulaLimits", spec := "formulaLimits", inPlace := ["internal/abi.NoEscape"], unfollowed := true, recurses := true, named := ["internal/strconv.uint64pow10", "math/bits.deBruijn32tab", "math/bits.deBruijn64tab"], apart := false, laid := [("math/bits.deBruijn32tab", laid_math_bits_deBruijn32tab), ("math/bits.deBruijn64tab", laid_math_bits_deBruijn64tab), ("internal/strconv.uint64pow10", laid_internal_strconv_uint64pow10)], narrowed := true }
def FormulaLimitsUptoSaid : Prop := formulaLimitsUptoRow.holds Tryd.pinned (OpenSpec.upto formulaLimitsSpec)

/-- 'interleavelaw31.FormulaClauses', WHERE WHAT IT READS IS OF BULK AT MOST 1048576: true; the input reads as it did. -/
def formulaClausesUptoRow : OpenClaim := { program := "ytpaoepcebcjfhaadoor", sum := "3f7c8bc473255a476ab872916f65b00da4473504c3975234fccd2fde6058c970", func := "interleave/interleavelaw31.FormulaClauses", spec := "formulaClauses", inPlace := ["internal/abi.NoEscape"], unfollowed := true, recurses := true, named := ["internal/strconv.uint64pow10", "math/bits.deBruijn32tab", "math/bits.deBruijn64tab"], apart := false, laid := [("math/bits.deBruijn32tab", laid_math_bits_deBruijn32tab), ("math/bits.deBruijn64tab", laid_math_bits_deBruijn64tab), ("internal/strconv.uint64pow10", laid_internal_strconv_uint64pow10)], narrowed := true }
def FormulaClausesUptoSaid : Prop := formulaClausesUptoRow.holds Tryd.pinned (OpenSpec.upto formulaClausesSpec)

/-- 'interleavelaw31.FormulaSatisfies', WHERE WHAT IT READS IS OF BULK AT MOST 1048576: true; the input reads as it did. -/
def formulaSatisfiesUptoRow : OpenClaim := { program := "ytpaoepcebcjfhaadoor", sum := "3f7c8bc473255a476ab872916f65b00da4473504c3975234fccd2fde6058c970", func := "interleave/interleavelaw31.FormulaSatisfies", spec := "formulaSatisfies", inPlace := ["internal/abi.NoEscape"], unfollowed := true, recurses := true, named := ["internal/strconv.uint64pow10", "math/bits.deBruijn32tab", "math/bits.deBruijn64tab"], apart := false, laid := [("math/bits.deBruijn32tab", laid_math_bits_deBruijn32tab), ("math/bits.deBruijn64tab", laid_math_bits_deBruijn64tab), ("internal/strconv.uint64pow10", laid_internal_strconv_uint64pow10)], narrowed := true }
def FormulaSatisfiesUptoSaid : Prop := formulaSatisfiesUptoRow.holds Tryd.pinned (OpenSpec.upto formulaSatisfiesSpec)

/-- 'interleavelaw31.FormulaModels', WHERE WHAT IT READS IS OF BULK AT MOST 1048576: true; the input reads as it did. -/
def formulaModelsUptoRow : OpenClaim := { program := "ytpaoepcebcjfhaadoor", sum := "3f7c8bc473255a476ab872916f65b00da4473504c3975234fccd2fde6058c970", func := "interleave/interleavelaw31.FormulaModels", spec := "formulaModels", inPlace := ["internal/abi.NoEscape"], unfollowed := true, recurses := true, named := ["internal/strconv.uint64pow10", "math/bits.deBruijn32tab", "math/bits.deBruijn64tab"], apart := false, laid := [("math/bits.deBruijn32tab", laid_math_bits_deBruijn32tab), ("math/bits.deBruijn64tab", laid_math_bits_deBruijn64tab), ("internal/strconv.uint64pow10", laid_internal_strconv_uint64pow10)], narrowed := true }
def FormulaModelsUptoSaid : Prop := formulaModelsUptoRow.holds Tryd.pinned (OpenSpec.upto formulaModelsSpec)

end Rows
end Go.Proofs.YtpaoepcebcjfhaaDoor
