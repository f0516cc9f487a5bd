/- Bytes: letters, digits, what may stand in a word; the print's functions as Bools. -/
import Derived.Test.YtdkloonoeklgaaaDoorX3
namespace Go.Proofs.YtdkloonoeklgaaaDoor.X
open Go.RowKit Go.Proofs.YtdkloonoeklgaaaDoorW.PrintWords Go.Proofs.YtdkloonoeklgaaaDoorW.PrintLast Go.Proofs.YtdkloonoeklgaaaDoorW.PrintMore

def isLet (c : Int) : Bool := decide (97 ≤ c ∧ c ≤ 122) || decide (65 ≤ c ∧ c ≤ 90)
def isDig (c : Int) : Bool := decide (48 ≤ c ∧ c ≤ 57)
def isInn (c : Int) : Bool := isLet c || (isDig c || c == 95)

theorem letter_f (c : Int) : token_letter.f c = some (isLet c) := by
  unfold token_letter.f isLet
  by_cases h1 : c ≥ 97 <;> by_cases h2 : c ≤ 122 <;> by_cases h3 : c ≥ 65 <;> simp [*] <;> omega
theorem digit_f (c : Int) : token_digit.f c = some (isDig c) := by
  unfold token_digit.f isDig
  by_cases h1 : c ≥ 48 <;> by_cases h2 : c ≤ 57 <;> simp [*] <;> omega
theorem inner_f (c : Int) : token_inner.f c = some (isInn c) := by
  unfold token_inner.f isInn
  rw [letter_f]
  simp only [Option.bind_some]
  cases isLet c
  · simp only [Bool.false_eq_true, if_false]
    rw [digit_f]
    simp only [Option.bind_some]
    cases isDig c <;> simp
  · simp

end Go.Proofs.YtdkloonoeklgaaaDoor.X
