/- The comparison of package formula. -/
import Derived.Test.YtppbnjmhkifdaaaDoorCut
import Derived.Test.YtppbnjmhkifdaaaDoorWLast
import Derived.Shelf.SlicesG.CompactI
import Derived.Test.YtppbnjmhkifdaaaDoorProg
namespace Go.Proofs.YtppbnjmhkifdaaaDoor.X
open Go Go.RowKit Go.Lib Go.Shelf Go.Sort Go.Proofs.YtppbnjmhkifdaaaDoorW.PrintWords Go.Proofs.YtppbnjmhkifdaaaDoorW.PrintLast
/-- A literal's boolean. -/
def nb (x : Int) : Int := if x < 0 then -x - 1 else x - 1
/-- The program's comparison. -/
def ncf (a b : Int) : Int := if wrap64 (nb a - nb b) = 0 then wrap64 (b - a) else wrap64 (nb a - nb b)
/-- Which of a literal and its negation comes first. -/
def nt (x : Int) : Int := if (0 < x ∧ x < 4611686018427387904) ∨ x < -4611686018427387904 then 0 else 1
def nkey (x : Int) : Int := 2 * nb x + nt x
def nle (x y : Int) : Bool := decide (nkey x ≤ nkey y)
def sortN (l : List Int) : List Int := l.mergeSort nle
def fitN (z : Int) (x : Int) : Bool := decide (-9223372036854775808 < x ∧ x < 9223372036854775808 ∧ x ≠ z)
/-- The lists at which the comparison is an order. -/
def okN (l : List Int) : Bool := l.all (fitN 4611686018427387904) || l.all (fitN (-4611686018427387904))
theorem ncf_lt (z x y : Int) (hz : z = 4611686018427387904 ∨ z = -4611686018427387904) (hx : fitN z x = true) (hy : fitN z y = true) : ncf x y < 0 ↔ nkey x < nkey y := by
  have hx := of_decide_eq_true hx
  have hy := of_decide_eq_true hy
  unfold ncf nkey nt nb wrap64
  rcases hz with rfl | rfl <;> (split <;> split <;> split <;> split <;> split <;> omega)
theorem nkey_inj (z x y : Int) (hz : z = 4611686018427387904 ∨ z = -4611686018427387904) (hx : fitN z x = true) (hy : fitN z y = true) (h : nkey x = nkey y) : x = y := by
  have hx := of_decide_eq_true hx
  have hy := of_decide_eq_true hy
  unfold nkey nt nb at h
  rcases hz with rfl | rfl <;> (split at h <;> split at h <;> split at h <;> split at h <;> omega)
end Go.Proofs.YtppbnjmhkifdaaaDoor.X
